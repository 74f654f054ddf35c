/- Words, by the document: signs. -/
import Derived.Test.YtaleenklamognaaDoorUaC
import Derived.Test.YtaleenklamognaaDoorUcC
set_option linter.unusedSimpArgs false
set_option linter.unusedVariables false
set_option maxRecDepth 100000
namespace Go.Proofs.YtaleenklamognaaDoor
open Go.Sx

open WordR
theorem sl1 (s : List UInt8) {a : Nat} (h : a < s.length) : (s.take (a + 1)).drop a = [s.getD a 0] := by
  rw [List.drop_take, show a + 1 - a = 1 by omega, drop_at s h]; rfl
theorem sl2 (s : List UInt8) {a : Nat} (h : a + 1 < s.length) : (s.take (a + 2)).drop a = [s.getD a 0, s.getD (a + 1) 0] := by
  rw [List.drop_take, show a + 2 - a = 2 by omega, drop_at s (show a < s.length by omega), drop_at s h]; rfl

variable (L' : HF) (T : List Wt) (a b : Nat) (js : List Nat) (s : List UInt8) (v : SV)
abbrev qt1 := upd (upd (upd (upd (upd (upd (upd (fun is => []) [(0 : Nat)] [(123 : UInt8)]) [(1 : Nat)] [(125 : UInt8)]) [(2 : Nat)] [(60 : UInt8)]) [(3 : Nat)] [(62 : UInt8)]) [(4 : Nat)] [(61 : UInt8), (61 : UInt8)]) [(5 : Nat)] [(33 : UInt8), (61 : UInt8)]) [(6 : Nat)] [(60 : UInt8), (61 : UInt8)]
abbrev qt2 := (a : Int) + (↑(1 : Nat) : Int)
abbrev qt3 := (a : Int) + (↑(2 : Nat) : Int)
abbrev qt56 := (↑s.length : Int)
abbrev qt4 := (decide (0 ≤ (a : Int) ∧ (a : Int) < (qt56 s)), true)
abbrev qt5 := (↑(s.getD (a : Int).toNat (0 : UInt8)).toNat : Int)
abbrev qt6 := (decide (0 ≤ IntKind.i64.wrap (qt2 a) ∧ IntKind.i64.wrap (qt2 a) ≤ (qt56 s)), true)
abbrev qt7 := (decide (0 ≤ (a : Int) ∧ (a : Int) ≤ IntKind.i64.wrap (qt2 a)), true)
abbrev qt8 := (decide (0 ≤ IntKind.i64.wrap (qt3 a) ∧ IntKind.i64.wrap (qt3 a) ≤ (qt56 s)), true)
abbrev qt9 := (decide (IntKind.i64.wrap (qt2 a) ≤ (qt56 s)), true)
abbrev qt10 := (decide (0 ≤ (a : Int) ∧ (a : Int) ≤ IntKind.i64.wrap (qt3 a)), true)
abbrev qt30 := T ++ [mkW (4 : Nat) [(123 : UInt8)] (0 : Int) a]
abbrev qt42 := (↑((IntKind.i64.wrap (qt2 a)).toNat + gapR false (List.drop (IntKind.i64.wrap (qt2 a)).toNat s)) : Int)
abbrev qt53 := subIx (0 : Nat) js
abbrev qt11 := ((s = s ∧ (0 = 0 ∧ (qt30 T a).length = T.length + (1 : Nat)) ∧ (b : Int) = (qt42 a s)) ∧ ((qt30 T a).length = T.length + (1 : Nat) ∧ (∀ (i : Nat), i < (qt30 T a).length → wK (qt30 T a) [i] = appF T.length (0 : Nat) (wK T) (fun js => (4 : Int)) [i]) ∧ (∀ (i : Nat), i < (qt30 T a).length → wX (qt30 T a) [i] = appF T.length (0 : Nat) (wX T) (fun js => upd qt1 [(7 : Nat)] [(62 : UInt8), (61 : UInt8)] ((0 : Nat) :: List.tail (qt53 js))) [i]) ∧ (∀ (i : Nat), i < (qt30 T a).length → wN (qt30 T a) [i] = appF T.length (0 : Nat) (wN T) (fun js => (0 : Int)) [i]) ∧ ((∀ (i : Nat), i < (qt30 T a).length → wM (qt30 T a) [i] = appF T.length (0 : Nat) (fun is => wM T is + (1 : Nat)) (fun js => (0 : Nat)) [i]) ∧ ∀ (i : Nat), i < (qt30 T a).length → wL (qt30 T a) [i] = appF T.length (0 : Nat) (wL T) (fun js => (0 : Nat)) [i]) ∧ ∀ (i : Nat), i < (qt30 T a).length → wP (qt30 T a) [i] = appF T.length (0 : Nat) (wP T) (fun js => (a : Int)) [i]) ∧ (qt30 T a).length = T.length + (1 : Nat) ∧ ∀ (m : Nat), m < (qt30 T a).length → gpL (qt30 T a) m = consN (0 : Nat) (gpL T) m ∧ (∀ (i : Nat), i < gpL (qt30 T a) m → gpV (qt30 T a) [m, i] = consF (gpV T) (gpV T) [m, i]) ∧ ∀ (i : Nat), i < gpL (qt30 T a) m → gpT (qt30 T a) [m, i] = consF (gpT T) (gpT T) [m, i])
abbrev qt31 := T ++ [mkW (4 : Nat) [(125 : UInt8)] (0 : Int) a]
abbrev qt12 := ((s = s ∧ (0 = 0 ∧ (qt31 T a).length = T.length + (1 : Nat)) ∧ (b : Int) = (qt42 a s)) ∧ ((qt31 T a).length = T.length + (1 : Nat) ∧ (∀ (i : Nat), i < (qt31 T a).length → wK (qt31 T a) [i] = appF T.length (0 : Nat) (wK T) (fun js => (4 : Int)) [i]) ∧ (∀ (i : Nat), i < (qt31 T a).length → wX (qt31 T a) [i] = appF T.length (0 : Nat) (wX T) (fun js => upd qt1 [(7 : Nat)] [(62 : UInt8), (61 : UInt8)] ((1 : Nat) :: List.tail (qt53 js))) [i]) ∧ (∀ (i : Nat), i < (qt31 T a).length → wN (qt31 T a) [i] = appF T.length (0 : Nat) (wN T) (fun js => (0 : Int)) [i]) ∧ ((∀ (i : Nat), i < (qt31 T a).length → wM (qt31 T a) [i] = appF T.length (0 : Nat) (fun is => wM T is + (1 : Nat)) (fun js => (0 : Nat)) [i]) ∧ ∀ (i : Nat), i < (qt31 T a).length → wL (qt31 T a) [i] = appF T.length (0 : Nat) (wL T) (fun js => (0 : Nat)) [i]) ∧ ∀ (i : Nat), i < (qt31 T a).length → wP (qt31 T a) [i] = appF T.length (0 : Nat) (wP T) (fun js => (a : Int)) [i]) ∧ (qt31 T a).length = T.length + (1 : Nat) ∧ ∀ (m : Nat), m < (qt31 T a).length → gpL (qt31 T a) m = consN (0 : Nat) (gpL T) m ∧ (∀ (i : Nat), i < gpL (qt31 T a) m → gpV (qt31 T a) [m, i] = consF (gpV T) (gpV T) [m, i]) ∧ ∀ (i : Nat), i < gpL (qt31 T a) m → gpT (qt31 T a) [m, i] = consF (gpT T) (gpT T) [m, i])
abbrev qt32 := T ++ [mkW (4 : Nat) [(60 : UInt8)] (0 : Int) a]
abbrev qt13 := ((s = s ∧ (0 = 0 ∧ (qt32 T a).length = T.length + (1 : Nat)) ∧ (b : Int) = (qt42 a s)) ∧ ((qt32 T a).length = T.length + (1 : Nat) ∧ (∀ (i : Nat), i < (qt32 T a).length → wK (qt32 T a) [i] = appF T.length (0 : Nat) (wK T) (fun js => (4 : Int)) [i]) ∧ (∀ (i : Nat), i < (qt32 T a).length → wX (qt32 T a) [i] = appF T.length (0 : Nat) (wX T) (fun js => upd qt1 [(7 : Nat)] [(62 : UInt8), (61 : UInt8)] ((2 : Nat) :: List.tail (qt53 js))) [i]) ∧ (∀ (i : Nat), i < (qt32 T a).length → wN (qt32 T a) [i] = appF T.length (0 : Nat) (wN T) (fun js => (0 : Int)) [i]) ∧ ((∀ (i : Nat), i < (qt32 T a).length → wM (qt32 T a) [i] = appF T.length (0 : Nat) (fun is => wM T is + (1 : Nat)) (fun js => (0 : Nat)) [i]) ∧ ∀ (i : Nat), i < (qt32 T a).length → wL (qt32 T a) [i] = appF T.length (0 : Nat) (wL T) (fun js => (0 : Nat)) [i]) ∧ ∀ (i : Nat), i < (qt32 T a).length → wP (qt32 T a) [i] = appF T.length (0 : Nat) (wP T) (fun js => (a : Int)) [i]) ∧ (qt32 T a).length = T.length + (1 : Nat) ∧ ∀ (m : Nat), m < (qt32 T a).length → gpL (qt32 T a) m = consN (0 : Nat) (gpL T) m ∧ (∀ (i : Nat), i < gpL (qt32 T a) m → gpV (qt32 T a) [m, i] = consF (gpV T) (gpV T) [m, i]) ∧ ∀ (i : Nat), i < gpL (qt32 T a) m → gpT (qt32 T a) [m, i] = consF (gpT T) (gpT T) [m, i])
abbrev qt33 := T ++ [mkW (4 : Nat) [(62 : UInt8)] (0 : Int) a]
abbrev qt14 := ((s = s ∧ (0 = 0 ∧ (qt33 T a).length = T.length + (1 : Nat)) ∧ (b : Int) = (qt42 a s)) ∧ ((qt33 T a).length = T.length + (1 : Nat) ∧ (∀ (i : Nat), i < (qt33 T a).length → wK (qt33 T a) [i] = appF T.length (0 : Nat) (wK T) (fun js => (4 : Int)) [i]) ∧ (∀ (i : Nat), i < (qt33 T a).length → wX (qt33 T a) [i] = appF T.length (0 : Nat) (wX T) (fun js => upd qt1 [(7 : Nat)] [(62 : UInt8), (61 : UInt8)] ((3 : Nat) :: List.tail (qt53 js))) [i]) ∧ (∀ (i : Nat), i < (qt33 T a).length → wN (qt33 T a) [i] = appF T.length (0 : Nat) (wN T) (fun js => (0 : Int)) [i]) ∧ ((∀ (i : Nat), i < (qt33 T a).length → wM (qt33 T a) [i] = appF T.length (0 : Nat) (fun is => wM T is + (1 : Nat)) (fun js => (0 : Nat)) [i]) ∧ ∀ (i : Nat), i < (qt33 T a).length → wL (qt33 T a) [i] = appF T.length (0 : Nat) (wL T) (fun js => (0 : Nat)) [i]) ∧ ∀ (i : Nat), i < (qt33 T a).length → wP (qt33 T a) [i] = appF T.length (0 : Nat) (wP T) (fun js => (a : Int)) [i]) ∧ (qt33 T a).length = T.length + (1 : Nat) ∧ ∀ (m : Nat), m < (qt33 T a).length → gpL (qt33 T a) m = consN (0 : Nat) (gpL T) m ∧ (∀ (i : Nat), i < gpL (qt33 T a) m → gpV (qt33 T a) [m, i] = consF (gpV T) (gpV T) [m, i]) ∧ ∀ (i : Nat), i < gpL (qt33 T a) m → gpT (qt33 T a) [m, i] = consF (gpT T) (gpT T) [m, i])
abbrev qt15 := List.take (IntKind.i64.wrap (qt2 a)).toNat s
abbrev qt16 := (decide (IntKind.i64.wrap (qt3 a) ≤ (qt56 s)), true)
abbrev qt17 := List.take (IntKind.i64.wrap (qt3 a)).toNat s
abbrev qt18 := (decide (((2 : Nat) * (T.length + (1 : Nat)) + (192 : Nat)) * (64 : Nat) ≤ (281474976710656 : Nat)), true)
abbrev qt19 := (List.drop (a : Int).toNat (qt15 a s) == upd qt1 [(7 : Nat)] [(62 : UInt8), (61 : UInt8)] [(0 : Nat)], false)
abbrev qt20 := (List.drop (a : Int).toNat (qt15 a s) == upd qt1 [(7 : Nat)] [(62 : UInt8), (61 : UInt8)] [(1 : Nat)], false)
abbrev qt21 := RunsTo Tryd.prog 15 (headOf Tryd.f15 0) (envAt Tryd.f15.ntmps ([(0, vS s), (5, vL 102 5 (T).length), (6, vN (a : Nat))])) (Sx.look ([] ++ (wtE 102 103 (T)))) 80 (v) (L') 9000
abbrev qt22 := (decide (IntKind.i64.wrap (qt3 a) ≤ (qt56 s)), false)
abbrev qt23 := T ++ [mkW (4 : Nat) [(61 : UInt8), (61 : UInt8)] (0 : Int) a]
abbrev qt24 := T ++ [mkW (4 : Nat) [(33 : UInt8), (61 : UInt8)] (0 : Int) a]
abbrev qt25 := T ++ [mkW (4 : Nat) [(60 : UInt8), (61 : UInt8)] (0 : Int) a]
abbrev qt26 := T ++ [mkW (4 : Nat) [(62 : UInt8), (61 : UInt8)] (0 : Int) a]
abbrev qt27 := (List.drop (a : Int).toNat (qt15 a s) == upd qt1 [(7 : Nat)] [(62 : UInt8), (61 : UInt8)] [(2 : Nat)], false)
abbrev qt28 := (List.drop (a : Int).toNat (qt15 a s) == upd qt1 [(7 : Nat)] [(62 : UInt8), (61 : UInt8)] [(3 : Nat)], false)
abbrev qt29 := (decide (0 ≤ IntKind.i64.wrap (qt2 a)) && (decide ((IntKind.i64.wrap (qt2 a)).toNat ≤ s.length) && decide (s.length ≤ (100000 : Nat))), true)
abbrev qt34 := (List.drop (a : Int).toNat (qt17 a s) == upd qt1 [(7 : Nat)] [(62 : UInt8), (61 : UInt8)] [(5 : Nat)], false)
abbrev qt35 := (List.drop (a : Int).toNat (qt17 a s) == upd qt1 [(7 : Nat)] [(62 : UInt8), (61 : UInt8)] [(6 : Nat)], false)
abbrev qt36 := (List.drop (a : Int).toNat (qt17 a s) == upd qt1 [(7 : Nat)] [(62 : UInt8), (61 : UInt8)] [(7 : Nat)], false)
abbrev qt37 := (List.drop (a : Int).toNat (qt17 a s) == upd qt1 [(7 : Nat)] [(62 : UInt8), (61 : UInt8)] [(4 : Nat)], false)
abbrev qt38 := (decide ((a : Int) < (qt56 s)), true)
abbrev qt39 := (decide (0 ≤ IntKind.i64.wrap (qt3 a)) && (decide ((IntKind.i64.wrap (qt3 a)).toNat ≤ s.length) && decide (s.length ≤ (100000 : Nat))), true)
abbrev qt40 := ((0 + T.length).ble T.length, true)
abbrev qt41 := (↑((IntKind.i64.wrap (qt3 a)).toNat + gapR false (List.drop (IntKind.i64.wrap (qt3 a)).toNat s)) : Int)
abbrev qt43 := (List.drop (a : Int).toNat (qt15 a s) == upd qt1 [(7 : Nat)] [(62 : UInt8), (61 : UInt8)] [(2 : Nat)], true)
abbrev qt44 := (List.drop (a : Int).toNat (qt15 a s) == upd qt1 [(7 : Nat)] [(62 : UInt8), (61 : UInt8)] [(3 : Nat)], true)
abbrev qt45 := ((qt5 a s) == 45, false)
abbrev qt46 := ((qt5 a s) == 10, false)
abbrev qt47 := ((qt5 a s) == 59, false)
abbrev qt48 := ((qt5 a s) == 34, false)
abbrev qt49 := (ltrI (qt5 a s), false)
abbrev qt50 := (figI (qt5 a s), false)
abbrev qt51 := (List.drop (a : Int).toNat (qt15 a s) == upd qt1 [(7 : Nat)] [(62 : UInt8), (61 : UInt8)] [(0 : Nat)], true)
abbrev qt52 := (List.drop (a : Int).toNat (qt15 a s) == upd qt1 [(7 : Nat)] [(62 : UInt8), (61 : UInt8)] [(1 : Nat)], true)
abbrev qt54 := (True ∧ (a : Int) = (a : Int) ∧ (5 : Int) = (5 : Int) ∧ True) ∧ True
abbrev qt55 := (6, vN (b : Nat))
theorem qtc1 : (upd (upd (upd (upd (upd (upd (upd (upd (fun is => ([] : List UInt8)) [(0 : Nat)] ([123] : List UInt8)) [(1 : Nat)] ([125] : List UInt8)) [(2 : Nat)] ([60] : List UInt8)) [(3 : Nat)] ([62] : List UInt8)) [(4 : Nat)] ([61, 61] : List UInt8)) [(5 : Nat)] ([33, 61] : List UInt8)) [(6 : Nat)] ([60, 61] : List UInt8)) [(7 : Nat)] ([62, 61] : List UInt8)) [(0 : Nat)] = ([123] : List UInt8) := rfl
theorem qtc2 : (upd (upd (upd (upd (upd (upd (upd (upd (fun is => ([] : List UInt8)) [(0 : Nat)] ([123] : List UInt8)) [(1 : Nat)] ([125] : List UInt8)) [(2 : Nat)] ([60] : List UInt8)) [(3 : Nat)] ([62] : List UInt8)) [(4 : Nat)] ([61, 61] : List UInt8)) [(5 : Nat)] ([33, 61] : List UInt8)) [(6 : Nat)] ([60, 61] : List UInt8)) [(7 : Nat)] ([62, 61] : List UInt8)) [(1 : Nat)] = ([125] : List UInt8) := rfl
theorem qtc3 : (upd (upd (upd (upd (upd (upd (upd (upd (fun is => ([] : List UInt8)) [(0 : Nat)] ([123] : List UInt8)) [(1 : Nat)] ([125] : List UInt8)) [(2 : Nat)] ([60] : List UInt8)) [(3 : Nat)] ([62] : List UInt8)) [(4 : Nat)] ([61, 61] : List UInt8)) [(5 : Nat)] ([33, 61] : List UInt8)) [(6 : Nat)] ([60, 61] : List UInt8)) [(7 : Nat)] ([62, 61] : List UInt8)) [(2 : Nat)] = ([60] : List UInt8) := rfl
theorem qtc4 : (upd (upd (upd (upd (upd (upd (upd (upd (fun is => ([] : List UInt8)) [(0 : Nat)] ([123] : List UInt8)) [(1 : Nat)] ([125] : List UInt8)) [(2 : Nat)] ([60] : List UInt8)) [(3 : Nat)] ([62] : List UInt8)) [(4 : Nat)] ([61, 61] : List UInt8)) [(5 : Nat)] ([33, 61] : List UInt8)) [(6 : Nat)] ([60, 61] : List UInt8)) [(7 : Nat)] ([62, 61] : List UInt8)) [(3 : Nat)] = ([62] : List UInt8) := rfl
theorem qtc5 : (upd (upd (upd (upd (upd (upd (upd (upd (fun is => ([] : List UInt8)) [(0 : Nat)] ([123] : List UInt8)) [(1 : Nat)] ([125] : List UInt8)) [(2 : Nat)] ([60] : List UInt8)) [(3 : Nat)] ([62] : List UInt8)) [(4 : Nat)] ([61, 61] : List UInt8)) [(5 : Nat)] ([33, 61] : List UInt8)) [(6 : Nat)] ([60, 61] : List UInt8)) [(7 : Nat)] ([62, 61] : List UInt8)) [(4 : Nat)] = ([61, 61] : List UInt8) := rfl
theorem qtc6 : (upd (upd (upd (upd (upd (upd (upd (upd (fun is => ([] : List UInt8)) [(0 : Nat)] ([123] : List UInt8)) [(1 : Nat)] ([125] : List UInt8)) [(2 : Nat)] ([60] : List UInt8)) [(3 : Nat)] ([62] : List UInt8)) [(4 : Nat)] ([61, 61] : List UInt8)) [(5 : Nat)] ([33, 61] : List UInt8)) [(6 : Nat)] ([60, 61] : List UInt8)) [(7 : Nat)] ([62, 61] : List UInt8)) [(5 : Nat)] = ([33, 61] : List UInt8) := rfl
theorem qtc7 : (upd (upd (upd (upd (upd (upd (upd (upd (fun is => ([] : List UInt8)) [(0 : Nat)] ([123] : List UInt8)) [(1 : Nat)] ([125] : List UInt8)) [(2 : Nat)] ([60] : List UInt8)) [(3 : Nat)] ([62] : List UInt8)) [(4 : Nat)] ([61, 61] : List UInt8)) [(5 : Nat)] ([33, 61] : List UInt8)) [(6 : Nat)] ([60, 61] : List UInt8)) [(7 : Nat)] ([62, 61] : List UInt8)) [(6 : Nat)] = ([60, 61] : List UInt8) := rfl
theorem qtc8 : (upd (upd (upd (upd (upd (upd (upd (upd (fun is => ([] : List UInt8)) [(0 : Nat)] ([123] : List UInt8)) [(1 : Nat)] ([125] : List UInt8)) [(2 : Nat)] ([60] : List UInt8)) [(3 : Nat)] ([62] : List UInt8)) [(4 : Nat)] ([61, 61] : List UInt8)) [(5 : Nat)] ([33, 61] : List UInt8)) [(6 : Nat)] ([60, 61] : List UInt8)) [(7 : Nat)] ([62, 61] : List UInt8)) [(7 : Nat)] = ([62, 61] : List UInt8) := rfl
set_option maxHeartbeats 4000000 in
theorem rsEE (s : List UInt8) (T : List Wt) (a n b : Nat) (ha : a < s.length) (hs : s.length ≤ 4000) (hT : T.length ≤ a) (n1 : (s.getD a 0).toNat ≠ 10) (n2 : (s.getD a 0).toNat ≠ 59) (hl : ltrI ((s.getD a 0).toNat : Int) = false) (hf : figI ((s.getD a 0).toNat : Int) = false) (n3 : (s.getD a 0).toNat ≠ 45) (n4 : (s.getD a 0).toNat ≠ 34) (h1 : a + 1 < s.length) (h2 : s.getD a 0 = 61) (h3 : s.getD (a + 1) 0 = 61) (hn2 : n = 2) (hb : a + n + gapR false (s.drop (a + n)) = b) (hn : a + n ≤ s.length)  (v : SV) (L' : HF) (next : (RunsTo Tryd.prog 15 (headOf Tryd.f15 0) (envAt Tryd.f15.ntmps ([(0, vS s), (5, vL 102 5 (T ++ [mkW 4 [61, 61] 0 a]).length), (qt55 b)])) (Sx.look ([] ++ (wtE 102 103 (T ++ [mkW 4 [61, 61] 0 a])))) 80 (v) (L') 9000)) :
    (qt21 L' T a s v) := by
  have hw1 : IntKind.i64.wrap ((a : Int) + 1) = ((a + 1 : Nat) : Int) := by rw [wr64 (by omega)]; rfl
  have hw2 : IntKind.i64.wrap ((a : Int) + 2) = ((a + 2 : Nat) : Int) := by rw [wr64 (by omega)]; omega
  have hb0 := u8nat (s.getD a 0)
  have ht1 := sl1 s ha
  have ht2 : a + 1 < s.length → (s.take (a + 2)).drop a = [s.getD a 0, s.getD (a + 1) 0] := fun q => sl2 s q
  have hm45 : ((((s.getD a 0).toNat : Nat) : Int) == 45) = false := beq_eq_false_iff_ne.2 (by omega)
  have hU0 := qtc1
  have hU1 := qtc2
  have hU2 := qtc3
  have hU3 := qtc4
  have hU4 := qtc5
  have hU5 := qtc6
  have hU6 := qtc7
  have hU7 := qtc8
  have hw3 : IntKind.i64.wrap ((a : Int) + ((1 + 1 : Nat) : Int)) = ((a + 2 : Nat) : Int) := by rw [wr64 (by omega)]; omega
  have ht2' := ht2 h1
  rw [h2, h3] at ht2'
  rw [h2] at ht1
  have hn2' : (n : Int) = 2 := by omega
  have hwn : IntKind.i64.wrap ((a : Int) + (n : Int)) = ((a + n : Nat) : Int) := by rw [wr64 (by omega)]; rfl
  have E' := (⟨hw1, hw2, hwn, hb, hl, hf, hm45, ht1, hU0, hU1, hU2, hU3, hU4, hU5, hU6, hU7, hw3, hn2⟩ : _ ∧ _ ∧ _ ∧ _ ∧ _ ∧ _ ∧ _ ∧ _ ∧ _ ∧ _ ∧ _ ∧ _ ∧ _ ∧ _ ∧ _ ∧ _ ∧ _ ∧ _)
  refine rMo baseRQo 600 (behind Tryd.f15 0) 900 140 (hI 86 2049150872950298064960105825791155589141964795364421) ([((102 : Nat), Rn.to (164 : Nat)), ((103 : Nat), Rn.to (163 : Nat))]) [(qt38 a s), (qt4 a s), (qt45 a s), (qt4 a s), (qt46 a s), (qt4 a s), (qt47 a s), (qt4 a s), (qt49 a s), (qt4 a s), (qt50 a s), (qt4 a s), (qt48 a s), (qt9 a s), (qt6 a s), (qt7 a), (qt19 a s), (qt9 a s), (qt6 a s), (qt7 a), (qt20 a s), (qt9 a s), (qt6 a s), (qt7 a), (qt27 a s), (qt9 a s), (qt6 a s), (qt7 a), (qt28 a s), (qt16 a s), (qt8 a s), (qt10 a), (List.drop (a : Int).toNat (qt17 a s) == upd qt1 [(7 : Nat)] [(62 : UInt8), (61 : UInt8)] [(4 : Nat)], true), (qt16 a s), (qt8 a s), (qt10 a), (qt34 a s), (qt16 a s), (qt8 a s), (qt10 a), (qt35 a s), (qt16 a s), (qt8 a s), (qt10 a), (qt36 a s), (qt40 T), (qt18 T), (qt39 a s)] ((s = s ∧ (0 = 0 ∧ (qt23 T a).length = T.length + (1 : Nat)) ∧ (b : Int) = (qt41 a s)) ∧ ((qt23 T a).length = T.length + (1 : Nat) ∧ (∀ (i : Nat), i < (qt23 T a).length → wK (qt23 T a) [i] = appF T.length (0 : Nat) (wK T) (fun js => (4 : Int)) [i]) ∧ (∀ (i : Nat), i < (qt23 T a).length → wX (qt23 T a) [i] = appF T.length (0 : Nat) (wX T) (fun js => upd qt1 [(7 : Nat)] [(62 : UInt8), (61 : UInt8)] ((4 : Nat) :: List.tail (qt53 js))) [i]) ∧ (∀ (i : Nat), i < (qt23 T a).length → wN (qt23 T a) [i] = appF T.length (0 : Nat) (wN T) (fun js => (0 : Int)) [i]) ∧ ((∀ (i : Nat), i < (qt23 T a).length → wM (qt23 T a) [i] = appF T.length (0 : Nat) (fun is => wM T is + (1 : Nat)) (fun js => (0 : Nat)) [i]) ∧ ∀ (i : Nat), i < (qt23 T a).length → wL (qt23 T a) [i] = appF T.length (0 : Nat) (wL T) (fun js => (0 : Nat)) [i]) ∧ ∀ (i : Nat), i < (qt23 T a).length → wP (qt23 T a) [i] = appF T.length (0 : Nat) (wP T) (fun js => (a : Int)) [i]) ∧ (qt23 T a).length = T.length + (1 : Nat) ∧ ∀ (m : Nat), m < (qt23 T a).length → gpL (qt23 T a) m = consN (0 : Nat) (gpL T) m ∧ (∀ (i : Nat), i < gpL (qt23 T a) m → gpV (qt23 T a) [m, i] = consF (gpV T) (gpV T) [m, i]) ∧ ∀ (i : Nat), i < gpL (qt23 T a) m → gpT (qt23 T a) [m, i] = consF (gpT T) (gpT T) [m, i]) next (oc3 ?_ ?_ ?_ (oc9 ?_ ?_ ?_ ?_ ?_ ?_ ?_ ?_ ?_ (oc9 ?_ ?_ ?_ ?_ ?_ ?_ ?_ ?_ ?_ (oc9 ?_ ?_ ?_ ?_ ?_ ?_ ?_ ?_ ?_ (oc9 ?_ ?_ ?_ ?_ ?_ ?_ ?_ ?_ ?_ (oc9 ?_ ?_ ?_ ?_ ?_ ?_ ?_ ?_ ?_ okn)))))) ?_
  all_goals clear next; try dsimp only [qt38, qt56, qt4, qt45, qt5, qt46, qt47, qt49, qt50, qt48, qt9, qt2, qt6, qt7, qt19, qt15, qt1, qt20, qt27, qt28, qt16, qt3, qt8, qt10, qt17, qt34, qt35, qt36, qt40, qt18, qt39, qt23, qt41, qt53]
  all_goals exact sc47

set_option maxHeartbeats 4000000 in
theorem rsNE (s : List UInt8) (T : List Wt) (a n b : Nat) (ha : a < s.length) (hs : s.length ≤ 4000) (hT : T.length ≤ a) (n1 : (s.getD a 0).toNat ≠ 10) (n2 : (s.getD a 0).toNat ≠ 59) (hl : ltrI ((s.getD a 0).toNat : Int) = false) (hf : figI ((s.getD a 0).toNat : Int) = false) (n3 : (s.getD a 0).toNat ≠ 45) (n4 : (s.getD a 0).toNat ≠ 34) (h1 : a + 1 < s.length) (h2 : s.getD a 0 = 33) (h3 : s.getD (a + 1) 0 = 61) (hn2 : n = 2) (hb : a + n + gapR false (s.drop (a + n)) = b) (hn : a + n ≤ s.length)  (v : SV) (L' : HF) (next : (RunsTo Tryd.prog 15 (headOf Tryd.f15 0) (envAt Tryd.f15.ntmps ([(0, vS s), (5, vL 102 5 (T ++ [mkW 4 [33, 61] 0 a]).length), (qt55 b)])) (Sx.look ([] ++ (wtE 102 103 (T ++ [mkW 4 [33, 61] 0 a])))) 80 (v) (L') 9000)) :
    (qt21 L' T a s v) := by
  have hw1 : IntKind.i64.wrap ((a : Int) + 1) = ((a + 1 : Nat) : Int) := by rw [wr64 (by omega)]; rfl
  have hw2 : IntKind.i64.wrap ((a : Int) + 2) = ((a + 2 : Nat) : Int) := by rw [wr64 (by omega)]; omega
  have hb0 := u8nat (s.getD a 0)
  have ht1 := sl1 s ha
  have ht2 : a + 1 < s.length → (s.take (a + 2)).drop a = [s.getD a 0, s.getD (a + 1) 0] := fun q => sl2 s q
  have hm45 : ((((s.getD a 0).toNat : Nat) : Int) == 45) = false := beq_eq_false_iff_ne.2 (by omega)
  have hU0 := qtc1
  have hU1 := qtc2
  have hU2 := qtc3
  have hU3 := qtc4
  have hU4 := qtc5
  have hU5 := qtc6
  have hU6 := qtc7
  have hU7 := qtc8
  have hw3 : IntKind.i64.wrap ((a : Int) + ((1 + 1 : Nat) : Int)) = ((a + 2 : Nat) : Int) := by rw [wr64 (by omega)]; omega
  have ht2' := ht2 h1
  rw [h2, h3] at ht2'
  rw [h2] at ht1
  have hn2' : (n : Int) = 2 := by omega
  have hwn : IntKind.i64.wrap ((a : Int) + (n : Int)) = ((a + n : Nat) : Int) := by rw [wr64 (by omega)]; rfl
  have E' := (⟨hw1, hw2, hwn, hb, hl, hf, hm45, ht1, hU0, hU1, hU2, hU3, hU4, hU5, hU6, hU7, hw3, hn2⟩ : _ ∧ _ ∧ _ ∧ _ ∧ _ ∧ _ ∧ _ ∧ _ ∧ _ ∧ _ ∧ _ ∧ _ ∧ _ ∧ _ ∧ _ ∧ _ ∧ _ ∧ _)
  refine rMo baseRQo 600 (behind Tryd.f15 0) 900 140 (hI 86 2049150872950383134253761845773314525661198655112261) ([((102 : Nat), Rn.to (164 : Nat)), ((103 : Nat), Rn.to (163 : Nat))]) [(qt38 a s), (qt4 a s), (qt45 a s), (qt4 a s), (qt46 a s), (qt4 a s), (qt47 a s), (qt4 a s), (qt49 a s), (qt4 a s), (qt50 a s), (qt4 a s), (qt48 a s), (qt9 a s), (qt6 a s), (qt7 a), (qt19 a s), (qt9 a s), (qt6 a s), (qt7 a), (qt20 a s), (qt9 a s), (qt6 a s), (qt7 a), (qt27 a s), (qt9 a s), (qt6 a s), (qt7 a), (qt28 a s), (qt16 a s), (qt8 a s), (qt10 a), (qt37 a s), (qt16 a s), (qt8 a s), (qt10 a), (List.drop (a : Int).toNat (qt17 a s) == upd qt1 [(7 : Nat)] [(62 : UInt8), (61 : UInt8)] [(5 : Nat)], true), (qt16 a s), (qt8 a s), (qt10 a), (qt35 a s), (qt16 a s), (qt8 a s), (qt10 a), (qt36 a s), (qt40 T), (qt18 T), (qt39 a s)] ((s = s ∧ (0 = 0 ∧ (qt24 T a).length = T.length + (1 : Nat)) ∧ (b : Int) = (qt41 a s)) ∧ ((qt24 T a).length = T.length + (1 : Nat) ∧ (∀ (i : Nat), i < (qt24 T a).length → wK (qt24 T a) [i] = appF T.length (0 : Nat) (wK T) (fun js => (4 : Int)) [i]) ∧ (∀ (i : Nat), i < (qt24 T a).length → wX (qt24 T a) [i] = appF T.length (0 : Nat) (wX T) (fun js => upd qt1 [(7 : Nat)] [(62 : UInt8), (61 : UInt8)] ((5 : Nat) :: List.tail (qt53 js))) [i]) ∧ (∀ (i : Nat), i < (qt24 T a).length → wN (qt24 T a) [i] = appF T.length (0 : Nat) (wN T) (fun js => (0 : Int)) [i]) ∧ ((∀ (i : Nat), i < (qt24 T a).length → wM (qt24 T a) [i] = appF T.length (0 : Nat) (fun is => wM T is + (1 : Nat)) (fun js => (0 : Nat)) [i]) ∧ ∀ (i : Nat), i < (qt24 T a).length → wL (qt24 T a) [i] = appF T.length (0 : Nat) (wL T) (fun js => (0 : Nat)) [i]) ∧ ∀ (i : Nat), i < (qt24 T a).length → wP (qt24 T a) [i] = appF T.length (0 : Nat) (wP T) (fun js => (a : Int)) [i]) ∧ (qt24 T a).length = T.length + (1 : Nat) ∧ ∀ (m : Nat), m < (qt24 T a).length → gpL (qt24 T a) m = consN (0 : Nat) (gpL T) m ∧ (∀ (i : Nat), i < gpL (qt24 T a) m → gpV (qt24 T a) [m, i] = consF (gpV T) (gpV T) [m, i]) ∧ ∀ (i : Nat), i < gpL (qt24 T a) m → gpT (qt24 T a) [m, i] = consF (gpT T) (gpT T) [m, i]) next (oc3 ?_ ?_ ?_ (oc9 ?_ ?_ ?_ ?_ ?_ ?_ ?_ ?_ ?_ (oc9 ?_ ?_ ?_ ?_ ?_ ?_ ?_ ?_ ?_ (oc9 ?_ ?_ ?_ ?_ ?_ ?_ ?_ ?_ ?_ (oc9 ?_ ?_ ?_ ?_ ?_ ?_ ?_ ?_ ?_ (oc9 ?_ ?_ ?_ ?_ ?_ ?_ ?_ ?_ ?_ okn)))))) ?_
  all_goals clear next; try dsimp only [qt38, qt56, qt4, qt45, qt5, qt46, qt47, qt49, qt50, qt48, qt9, qt2, qt6, qt7, qt19, qt15, qt1, qt20, qt27, qt28, qt16, qt3, qt8, qt10, qt37, qt17, qt35, qt36, qt40, qt18, qt39, qt24, qt41, qt53]
  all_goals exact sc47

set_option maxHeartbeats 4000000 in
theorem rsLE (s : List UInt8) (T : List Wt) (a n b : Nat) (ha : a < s.length) (hs : s.length ≤ 4000) (hT : T.length ≤ a) (n1 : (s.getD a 0).toNat ≠ 10) (n2 : (s.getD a 0).toNat ≠ 59) (hl : ltrI ((s.getD a 0).toNat : Int) = false) (hf : figI ((s.getD a 0).toNat : Int) = false) (n3 : (s.getD a 0).toNat ≠ 45) (n4 : (s.getD a 0).toNat ≠ 34) (h1 : a + 1 < s.length) (h2 : s.getD a 0 = 60) (h3 : s.getD (a + 1) 0 = 61) (hn2 : n = 2) (hb : a + n + gapR false (s.drop (a + n)) = b) (hn : a + n ≤ s.length)  (v : SV) (L' : HF) (next : (RunsTo Tryd.prog 15 (headOf Tryd.f15 0) (envAt Tryd.f15.ntmps ([(0, vS s), (5, vL 102 5 (T ++ [mkW 4 [60, 61] 0 a]).length), (qt55 b)])) (Sx.look ([] ++ (wtE 102 103 (T ++ [mkW 4 [60, 61] 0 a])))) 80 (v) (L') 9000)) :
    (qt21 L' T a s v) := by
  have hw1 : IntKind.i64.wrap ((a : Int) + 1) = ((a + 1 : Nat) : Int) := by rw [wr64 (by omega)]; rfl
  have hw2 : IntKind.i64.wrap ((a : Int) + 2) = ((a + 2 : Nat) : Int) := by rw [wr64 (by omega)]; omega
  have hb0 := u8nat (s.getD a 0)
  have ht1 := sl1 s ha
  have ht2 : a + 1 < s.length → (s.take (a + 2)).drop a = [s.getD a 0, s.getD (a + 1) 0] := fun q => sl2 s q
  have hm45 : ((((s.getD a 0).toNat : Nat) : Int) == 45) = false := beq_eq_false_iff_ne.2 (by omega)
  have hU0 := qtc1
  have hU1 := qtc2
  have hU2 := qtc3
  have hU3 := qtc4
  have hU4 := qtc5
  have hU5 := qtc6
  have hU6 := qtc7
  have hU7 := qtc8
  have hw3 : IntKind.i64.wrap ((a : Int) + ((1 + 1 : Nat) : Int)) = ((a + 2 : Nat) : Int) := by rw [wr64 (by omega)]; omega
  have ht2' := ht2 h1
  rw [h2, h3] at ht2'
  rw [h2] at ht1
  have hn2' : (n : Int) = 2 := by omega
  have hwn : IntKind.i64.wrap ((a : Int) + (n : Int)) = ((a + n : Nat) : Int) := by rw [wr64 (by omega)]; rfl
  have E' := (⟨hw1, hw2, hwn, hb, hl, hf, hm45, ht1, hU0, hU1, hU2, hU3, hU4, hU5, hU6, hU7, hw3, hn2⟩ : _ ∧ _ ∧ _ ∧ _ ∧ _ ∧ _ ∧ _ ∧ _ ∧ _ ∧ _ ∧ _ ∧ _ ∧ _ ∧ _ ∧ _ ∧ _ ∧ _ ∧ _)
  refine rMo baseRQo 600 (behind Tryd.f15 0) 900 140 (hI 86 2049150878525484363294687396843609705075088383231045) ([((102 : Nat), Rn.to (164 : Nat)), ((103 : Nat), Rn.to (163 : Nat))]) [(qt38 a s), (qt4 a s), (qt45 a s), (qt4 a s), (qt46 a s), (qt4 a s), (qt47 a s), (qt4 a s), (qt49 a s), (qt4 a s), (qt50 a s), (qt4 a s), (qt48 a s), (qt9 a s), (qt6 a s), (qt7 a), (qt19 a s), (qt9 a s), (qt6 a s), (qt7 a), (qt20 a s), (qt9 a s), (qt6 a s), (qt7 a), (qt43 a s), (qt9 a s), (qt6 a s), (qt7 a), (qt28 a s), (qt16 a s), (qt8 a s), (qt10 a), (qt37 a s), (qt16 a s), (qt8 a s), (qt10 a), (qt34 a s), (qt16 a s), (qt8 a s), (qt10 a), (List.drop (a : Int).toNat (qt17 a s) == upd qt1 [(7 : Nat)] [(62 : UInt8), (61 : UInt8)] [(6 : Nat)], true), (qt16 a s), (qt8 a s), (qt10 a), (qt36 a s), (qt40 T), (qt18 T), (qt39 a s)] ((s = s ∧ (0 = 0 ∧ (qt25 T a).length = T.length + (1 : Nat)) ∧ (b : Int) = (qt41 a s)) ∧ ((qt25 T a).length = T.length + (1 : Nat) ∧ (∀ (i : Nat), i < (qt25 T a).length → wK (qt25 T a) [i] = appF T.length (0 : Nat) (wK T) (fun js => (4 : Int)) [i]) ∧ (∀ (i : Nat), i < (qt25 T a).length → wX (qt25 T a) [i] = appF T.length (0 : Nat) (wX T) (fun js => upd qt1 [(7 : Nat)] [(62 : UInt8), (61 : UInt8)] ((6 : Nat) :: List.tail (qt53 js))) [i]) ∧ (∀ (i : Nat), i < (qt25 T a).length → wN (qt25 T a) [i] = appF T.length (0 : Nat) (wN T) (fun js => (0 : Int)) [i]) ∧ ((∀ (i : Nat), i < (qt25 T a).length → wM (qt25 T a) [i] = appF T.length (0 : Nat) (fun is => wM T is + (1 : Nat)) (fun js => (0 : Nat)) [i]) ∧ ∀ (i : Nat), i < (qt25 T a).length → wL (qt25 T a) [i] = appF T.length (0 : Nat) (wL T) (fun js => (0 : Nat)) [i]) ∧ ∀ (i : Nat), i < (qt25 T a).length → wP (qt25 T a) [i] = appF T.length (0 : Nat) (wP T) (fun js => (a : Int)) [i]) ∧ (qt25 T a).length = T.length + (1 : Nat) ∧ ∀ (m : Nat), m < (qt25 T a).length → gpL (qt25 T a) m = consN (0 : Nat) (gpL T) m ∧ (∀ (i : Nat), i < gpL (qt25 T a) m → gpV (qt25 T a) [m, i] = consF (gpV T) (gpV T) [m, i]) ∧ ∀ (i : Nat), i < gpL (qt25 T a) m → gpT (qt25 T a) [m, i] = consF (gpT T) (gpT T) [m, i]) next (oc3 ?_ ?_ ?_ (oc9 ?_ ?_ ?_ ?_ ?_ ?_ ?_ ?_ ?_ (oc9 ?_ ?_ ?_ ?_ ?_ ?_ ?_ ?_ ?_ (oc9 ?_ ?_ ?_ ?_ ?_ ?_ ?_ ?_ ?_ (oc9 ?_ ?_ ?_ ?_ ?_ ?_ ?_ ?_ ?_ (oc9 ?_ ?_ ?_ ?_ ?_ ?_ ?_ ?_ ?_ okn)))))) ?_
  all_goals clear next; try dsimp only [qt38, qt56, qt4, qt45, qt5, qt46, qt47, qt49, qt50, qt48, qt9, qt2, qt6, qt7, qt19, qt15, qt1, qt20, qt43, qt28, qt16, qt3, qt8, qt10, qt37, qt17, qt34, qt36, qt40, qt18, qt39, qt25, qt41, qt53]
  all_goals exact sc47

set_option maxHeartbeats 4000000 in
theorem rsGE (s : List UInt8) (T : List Wt) (a n b : Nat) (ha : a < s.length) (hs : s.length ≤ 4000) (hT : T.length ≤ a) (n1 : (s.getD a 0).toNat ≠ 10) (n2 : (s.getD a 0).toNat ≠ 59) (hl : ltrI ((s.getD a 0).toNat : Int) = false) (hf : figI ((s.getD a 0).toNat : Int) = false) (n3 : (s.getD a 0).toNat ≠ 45) (n4 : (s.getD a 0).toNat ≠ 34) (h1 : a + 1 < s.length) (h2 : s.getD a 0 = 62) (h3 : s.getD (a + 1) 0 = 61) (hn2 : n = 2) (hb : a + n + gapR false (s.drop (a + n)) = b) (hn : a + n ≤ s.length)  (v : SV) (L' : HF) (next : (RunsTo Tryd.prog 15 (headOf Tryd.f15 0) (envAt Tryd.f15.ntmps ([(0, vS s), (5, vL 102 5 (T ++ [mkW 4 [62, 61] 0 a]).length), (qt55 b)])) (Sx.look ([] ++ (wtE 102 103 (T ++ [mkW 4 [62, 61] 0 a])))) 80 (v) (L') 9000)) :
    (qt21 L' T a s v) := by
  have hw1 : IntKind.i64.wrap ((a : Int) + 1) = ((a + 1 : Nat) : Int) := by rw [wr64 (by omega)]; rfl
  have hw2 : IntKind.i64.wrap ((a : Int) + 2) = ((a + 2 : Nat) : Int) := by rw [wr64 (by omega)]; omega
  have hb0 := u8nat (s.getD a 0)
  have ht1 := sl1 s ha
  have ht2 : a + 1 < s.length → (s.take (a + 2)).drop a = [s.getD a 0, s.getD (a + 1) 0] := fun q => sl2 s q
  have hm45 : ((((s.getD a 0).toNat : Nat) : Int) == 45) = false := beq_eq_false_iff_ne.2 (by omega)
  have hU0 := qtc1
  have hU1 := qtc2
  have hU2 := qtc3
  have hU3 := qtc4
  have hU4 := qtc5
  have hU5 := qtc6
  have hU6 := qtc7
  have hU7 := qtc8
  have hw3 : IntKind.i64.wrap ((a : Int) + ((1 + 1 : Nat) : Int)) = ((a + 2 : Nat) : Int) := by rw [wr64 (by omega)]; omega
  have ht2' := ht2 h1
  rw [h2, h3] at ht2'
  rw [h2] at ht1
  have hn2' : (n : Int) = 2 := by omega
  have hwn : IntKind.i64.wrap ((a : Int) + (n : Int)) = ((a + n : Nat) : Int) := by rw [wr64 (by omega)]; rfl
  have E' := (⟨hw1, hw2, hwn, hb, hl, hf, hm45, ht1, hU0, hU1, hU2, hU3, hU4, hU5, hU6, hU7, hw3, hn2⟩ : _ ∧ _ ∧ _ ∧ _ ∧ _ ∧ _ ∧ _ ∧ _ ∧ _ ∧ _ ∧ _ ∧ _ ∧ _ ∧ _ ∧ _ ∧ _ ∧ _ ∧ _)
  refine rMo baseRQo 600 (behind Tryd.f15 0) 900 140 (hI 86 2049516248359630789391602339406256318848653082182725) ([((102 : Nat), Rn.to (164 : Nat)), ((103 : Nat), Rn.to (163 : Nat))]) [(qt38 a s), (qt4 a s), (qt45 a s), (qt4 a s), (qt46 a s), (qt4 a s), (qt47 a s), (qt4 a s), (qt49 a s), (qt4 a s), (qt50 a s), (qt4 a s), (qt48 a s), (qt9 a s), (qt6 a s), (qt7 a), (qt19 a s), (qt9 a s), (qt6 a s), (qt7 a), (qt20 a s), (qt9 a s), (qt6 a s), (qt7 a), (qt27 a s), (qt9 a s), (qt6 a s), (qt7 a), (qt44 a s), (qt16 a s), (qt8 a s), (qt10 a), (qt37 a s), (qt16 a s), (qt8 a s), (qt10 a), (qt34 a s), (qt16 a s), (qt8 a s), (qt10 a), (qt35 a s), (qt16 a s), (qt8 a s), (qt10 a), (List.drop (a : Int).toNat (qt17 a s) == upd qt1 [(7 : Nat)] [(62 : UInt8), (61 : UInt8)] [(7 : Nat)], true), (qt40 T), (qt18 T), (qt39 a s)] ((s = s ∧ (0 = 0 ∧ (qt26 T a).length = T.length + (1 : Nat)) ∧ (b : Int) = (qt41 a s)) ∧ ((qt26 T a).length = T.length + (1 : Nat) ∧ (∀ (i : Nat), i < (qt26 T a).length → wK (qt26 T a) [i] = appF T.length (0 : Nat) (wK T) (fun js => (4 : Int)) [i]) ∧ (∀ (i : Nat), i < (qt26 T a).length → wX (qt26 T a) [i] = appF T.length (0 : Nat) (wX T) (fun js => upd qt1 [(7 : Nat)] [(62 : UInt8), (61 : UInt8)] ((7 : Nat) :: List.tail (qt53 js))) [i]) ∧ (∀ (i : Nat), i < (qt26 T a).length → wN (qt26 T a) [i] = appF T.length (0 : Nat) (wN T) (fun js => (0 : Int)) [i]) ∧ ((∀ (i : Nat), i < (qt26 T a).length → wM (qt26 T a) [i] = appF T.length (0 : Nat) (fun is => wM T is + (1 : Nat)) (fun js => (0 : Nat)) [i]) ∧ ∀ (i : Nat), i < (qt26 T a).length → wL (qt26 T a) [i] = appF T.length (0 : Nat) (wL T) (fun js => (0 : Nat)) [i]) ∧ ∀ (i : Nat), i < (qt26 T a).length → wP (qt26 T a) [i] = appF T.length (0 : Nat) (wP T) (fun js => (a : Int)) [i]) ∧ (qt26 T a).length = T.length + (1 : Nat) ∧ ∀ (m : Nat), m < (qt26 T a).length → gpL (qt26 T a) m = consN (0 : Nat) (gpL T) m ∧ (∀ (i : Nat), i < gpL (qt26 T a) m → gpV (qt26 T a) [m, i] = consF (gpV T) (gpV T) [m, i]) ∧ ∀ (i : Nat), i < gpL (qt26 T a) m → gpT (qt26 T a) [m, i] = consF (gpT T) (gpT T) [m, i]) next (oc3 ?_ ?_ ?_ (oc9 ?_ ?_ ?_ ?_ ?_ ?_ ?_ ?_ ?_ (oc9 ?_ ?_ ?_ ?_ ?_ ?_ ?_ ?_ ?_ (oc9 ?_ ?_ ?_ ?_ ?_ ?_ ?_ ?_ ?_ (oc9 ?_ ?_ ?_ ?_ ?_ ?_ ?_ ?_ ?_ (oc9 ?_ ?_ ?_ ?_ ?_ ?_ ?_ ?_ ?_ okn)))))) ?_
  all_goals clear next; try dsimp only [qt38, qt56, qt4, qt45, qt5, qt46, qt47, qt49, qt50, qt48, qt9, qt2, qt6, qt7, qt19, qt15, qt1, qt20, qt27, qt44, qt16, qt3, qt8, qt10, qt37, qt17, qt34, qt35, qt40, qt18, qt39, qt26, qt41, qt53]
  all_goals exact sc47

set_option maxHeartbeats 4000000 in
theorem rsL (s : List UInt8) (T : List Wt) (a n b : Nat) (ha : a < s.length) (hs : s.length ≤ 4000) (hT : T.length ≤ a) (n1 : (s.getD a 0).toNat ≠ 10) (n2 : (s.getD a 0).toNat ≠ 59) (hl : ltrI ((s.getD a 0).toNat : Int) = false) (hf : figI ((s.getD a 0).toNat : Int) = false) (n3 : (s.getD a 0).toNat ≠ 45) (n4 : (s.getD a 0).toNat ≠ 34) (h2 : s.getD a 0 = 60) (h3 : a + 1 < s.length → s.getD (a + 1) 0 ≠ 61) (hn1 : n = 1) (hb : a + n + gapR false (s.drop (a + n)) = b) (hn : a + n ≤ s.length)  (v : SV) (L' : HF) (next : (RunsTo Tryd.prog 15 (headOf Tryd.f15 0) (envAt Tryd.f15.ntmps ([(0, vS s), (5, vL 102 5 (T ++ [mkW 4 [60] 0 a]).length), (qt55 b)])) (Sx.look ([] ++ (wtE 102 103 (T ++ [mkW 4 [60] 0 a])))) 80 (v) (L') 9000)) :
    (qt21 L' T a s v) := by
  have hw1 : IntKind.i64.wrap ((a : Int) + 1) = ((a + 1 : Nat) : Int) := by rw [wr64 (by omega)]; rfl
  have hw2 : IntKind.i64.wrap ((a : Int) + 2) = ((a + 2 : Nat) : Int) := by rw [wr64 (by omega)]; omega
  have hb0 := u8nat (s.getD a 0)
  have ht1 := sl1 s ha
  have ht2 : a + 1 < s.length → (s.take (a + 2)).drop a = [s.getD a 0, s.getD (a + 1) 0] := fun q => sl2 s q
  have hm45 : ((((s.getD a 0).toNat : Nat) : Int) == 45) = false := beq_eq_false_iff_ne.2 (by omega)
  have hU0 := qtc1
  have hU1 := qtc2
  have hU2 := qtc3
  have hU3 := qtc4
  have hU4 := qtc5
  have hU5 := qtc6
  have hU6 := qtc7
  have hU7 := qtc8
  have hw3 : IntKind.i64.wrap ((a : Int) + ((1 + 1 : Nat) : Int)) = ((a + 2 : Nat) : Int) := by rw [wr64 (by omega)]; omega
  rw [h2] at ht1
  have ht2' : a + 1 < s.length → (s.take (a + 2)).drop a = [60, s.getD (a + 1) 0] := fun q => by rw [ht2 q, h2]
  have hn1' : (n : Int) = 1 := by omega
  have hwn : IntKind.i64.wrap ((a : Int) + (n : Int)) = ((a + n : Nat) : Int) := by rw [wr64 (by omega)]; rfl
  have E' := (⟨hw1, hw2, hwn, hb, hl, hf, hm45, ht1, hU0, hU1, hU2, hU3, hU4, hU5, hU6, hU7, hw3, hn1⟩ : _ ∧ _ ∧ _ ∧ _ ∧ _ ∧ _ ∧ _ ∧ _ ∧ _ ∧ _ ∧ _ ∧ _ ∧ _ ∧ _ ∧ _ ∧ _ ∧ _ ∧ _)
  refine bcase (fun gg0 => (rMo baseRQo 600 (behind Tryd.f15 0) 900 140 (hI 74 122153139082498526232742459782481518554989637) ([((102 : Nat), Rn.to (164 : Nat)), ((103 : Nat), Rn.to (163 : Nat))]) [(qt38 a s), (qt4 a s), (qt45 a s), (qt4 a s), (qt46 a s), (qt4 a s), (qt47 a s), (qt4 a s), (qt49 a s), (qt4 a s), (qt50 a s), (qt4 a s), (qt48 a s), (qt9 a s), (qt6 a s), (qt7 a), (qt19 a s), (qt9 a s), (qt6 a s), (qt7 a), (qt20 a s), (qt9 a s), (qt6 a s), (qt7 a), (qt43 a s), (qt9 a s), (qt6 a s), (qt7 a), (qt28 a s), (qt22 a s), (qt22 a s), (qt22 a s), (qt22 a s), (qt40 T), (qt18 T), (qt29 a s)] (qt13 T a b s) next (oc9 ?_ ?_ ?_ ?_ ?_ ?_ ?_ ?_ ?_ (oc9 ?_ ?_ ?_ ?_ ?_ ?_ ?_ ?_ ?_ (oc9 ?_ ?_ ?_ ?_ ?_ ?_ ?_ ?_ ?_ (oc9 ?_ ?_ gg0 gg0 gg0 gg0 ?_ ?_ ?_ okn)))) ?_)) fun gg0 => (rMo baseRQo 600 (behind Tryd.f15 0) 900 140 (hI 86 2049150872950298063662031611459680136912998006735941) ([((102 : Nat), Rn.to (164 : Nat)), ((103 : Nat), Rn.to (163 : Nat))]) [(qt38 a s), (qt4 a s), (qt45 a s), (qt4 a s), (qt46 a s), (qt4 a s), (qt47 a s), (qt4 a s), (qt49 a s), (qt4 a s), (qt50 a s), (qt4 a s), (qt48 a s), (qt9 a s), (qt6 a s), (qt7 a), (qt19 a s), (qt9 a s), (qt6 a s), (qt7 a), (qt20 a s), (qt9 a s), (qt6 a s), (qt7 a), (qt43 a s), (qt9 a s), (qt6 a s), (qt7 a), (qt28 a s), (qt16 a s), (qt8 a s), (qt10 a), (qt37 a s), (qt16 a s), (qt8 a s), (qt10 a), (qt34 a s), (qt16 a s), (qt8 a s), (qt10 a), (qt35 a s), (qt16 a s), (qt8 a s), (qt10 a), (qt36 a s), (qt40 T), (qt18 T), (qt29 a s)] (qt13 T a b s) next (oc3 ?_ ?_ ?_ (oc9 ?_ ?_ ?_ ?_ ?_ ?_ ?_ ?_ ?_ (oc9 ?_ ?_ ?_ ?_ ?_ ?_ ?_ ?_ ?_ (oc9 ?_ ?_ ?_ ?_ ?_ ?_ ?_ ?_ gg0 (oc9 ?_ ?_ ?_ gg0 ?_ ?_ ?_ gg0 ?_ (oc9 ?_ ?_ gg0 ?_ ?_ ?_ ?_ ?_ ?_ okn)))))) ?_)
  all_goals clear next; try dsimp only [qt38, qt56, qt4, qt45, qt5, qt46, qt47, qt49, qt50, qt48, qt9, qt2, qt6, qt7, qt19, qt15, qt1, qt20, qt43, qt28, qt22, qt3, qt40, qt18, qt29, qt13, qt32, qt42, qt53, qt16, qt8, qt10, qt37, qt17, qt34, qt35, qt36] at *
  all_goals exact sc48

set_option maxHeartbeats 4000000 in
theorem rsG (s : List UInt8) (T : List Wt) (a n b : Nat) (ha : a < s.length) (hs : s.length ≤ 4000) (hT : T.length ≤ a) (n1 : (s.getD a 0).toNat ≠ 10) (n2 : (s.getD a 0).toNat ≠ 59) (hl : ltrI ((s.getD a 0).toNat : Int) = false) (hf : figI ((s.getD a 0).toNat : Int) = false) (n3 : (s.getD a 0).toNat ≠ 45) (n4 : (s.getD a 0).toNat ≠ 34) (h2 : s.getD a 0 = 62) (h3 : a + 1 < s.length → s.getD (a + 1) 0 ≠ 61) (hn1 : n = 1) (hb : a + n + gapR false (s.drop (a + n)) = b) (hn : a + n ≤ s.length)  (v : SV) (L' : HF) (next : (RunsTo Tryd.prog 15 (headOf Tryd.f15 0) (envAt Tryd.f15.ntmps ([(0, vS s), (5, vL 102 5 (T ++ [mkW 4 [62] 0 a]).length), (qt55 b)])) (Sx.look ([] ++ (wtE 102 103 (T ++ [mkW 4 [62] 0 a])))) 80 (v) (L') 9000)) :
    (qt21 L' T a s v) := by
  have hw1 : IntKind.i64.wrap ((a : Int) + 1) = ((a + 1 : Nat) : Int) := by rw [wr64 (by omega)]; rfl
  have hw2 : IntKind.i64.wrap ((a : Int) + 2) = ((a + 2 : Nat) : Int) := by rw [wr64 (by omega)]; omega
  have hb0 := u8nat (s.getD a 0)
  have ht1 := sl1 s ha
  have ht2 : a + 1 < s.length → (s.take (a + 2)).drop a = [s.getD a 0, s.getD (a + 1) 0] := fun q => sl2 s q
  have hm45 : ((((s.getD a 0).toNat : Nat) : Int) == 45) = false := beq_eq_false_iff_ne.2 (by omega)
  have hU0 := qtc1
  have hU1 := qtc2
  have hU2 := qtc3
  have hU3 := qtc4
  have hU4 := qtc5
  have hU5 := qtc6
  have hU6 := qtc7
  have hU7 := qtc8
  have hw3 : IntKind.i64.wrap ((a : Int) + ((1 + 1 : Nat) : Int)) = ((a + 2 : Nat) : Int) := by rw [wr64 (by omega)]; omega
  rw [h2] at ht1
  have ht2' : a + 1 < s.length → (s.take (a + 2)).drop a = [62, s.getD (a + 1) 0] := fun q => by rw [ht2 q, h2]
  have hn1' : (n : Int) = 1 := by omega
  have hwn : IntKind.i64.wrap ((a : Int) + (n : Int)) = ((a + n : Nat) : Int) := by rw [wr64 (by omega)]; rfl
  have E' := (⟨hw1, hw2, hwn, hb, hl, hf, hm45, ht1, hU0, hU1, hU2, hU3, hU4, hU5, hU6, hU7, hw3, hn1⟩ : _ ∧ _ ∧ _ ∧ _ ∧ _ ∧ _ ∧ _ ∧ _ ∧ _ ∧ _ ∧ _ ∧ _ ∧ _ ∧ _ ∧ _ ∧ _ ∧ _ ∧ _)
  refine bcase (fun gg0 => (rMo baseRQo 600 (behind Tryd.f15 0) 900 140 (hI 74 122153139082498546039480856893662259647300677) ([((102 : Nat), Rn.to (164 : Nat)), ((103 : Nat), Rn.to (163 : Nat))]) [(qt38 a s), (qt4 a s), (qt45 a s), (qt4 a s), (qt46 a s), (qt4 a s), (qt47 a s), (qt4 a s), (qt49 a s), (qt4 a s), (qt50 a s), (qt4 a s), (qt48 a s), (qt9 a s), (qt6 a s), (qt7 a), (qt19 a s), (qt9 a s), (qt6 a s), (qt7 a), (qt20 a s), (qt9 a s), (qt6 a s), (qt7 a), (qt27 a s), (qt9 a s), (qt6 a s), (qt7 a), (qt44 a s), (qt22 a s), (qt22 a s), (qt22 a s), (qt22 a s), (qt40 T), (qt18 T), (qt29 a s)] (qt14 T a b s) next (oc9 ?_ ?_ ?_ ?_ ?_ ?_ ?_ ?_ ?_ (oc9 ?_ ?_ ?_ ?_ ?_ ?_ ?_ ?_ ?_ (oc9 ?_ ?_ ?_ ?_ ?_ ?_ ?_ ?_ ?_ (oc9 ?_ ?_ gg0 gg0 gg0 gg0 ?_ ?_ ?_ okn)))) ?_)) fun gg0 => (rMo baseRQo 600 (behind Tryd.f15 0) 900 140 (hI 86 2049150872950298063662051418198077248093739099046981) ([((102 : Nat), Rn.to (164 : Nat)), ((103 : Nat), Rn.to (163 : Nat))]) [(qt38 a s), (qt4 a s), (qt45 a s), (qt4 a s), (qt46 a s), (qt4 a s), (qt47 a s), (qt4 a s), (qt49 a s), (qt4 a s), (qt50 a s), (qt4 a s), (qt48 a s), (qt9 a s), (qt6 a s), (qt7 a), (qt19 a s), (qt9 a s), (qt6 a s), (qt7 a), (qt20 a s), (qt9 a s), (qt6 a s), (qt7 a), (qt27 a s), (qt9 a s), (qt6 a s), (qt7 a), (qt44 a s), (qt16 a s), (qt8 a s), (qt10 a), (qt37 a s), (qt16 a s), (qt8 a s), (qt10 a), (qt34 a s), (qt16 a s), (qt8 a s), (qt10 a), (qt35 a s), (qt16 a s), (qt8 a s), (qt10 a), (qt36 a s), (qt40 T), (qt18 T), (qt29 a s)] (qt14 T a b s) next (oc3 ?_ ?_ ?_ (oc9 ?_ ?_ ?_ ?_ ?_ ?_ ?_ ?_ ?_ (oc9 ?_ ?_ ?_ ?_ ?_ ?_ ?_ ?_ ?_ (oc9 ?_ ?_ ?_ ?_ ?_ ?_ ?_ ?_ gg0 (oc9 ?_ ?_ ?_ gg0 ?_ ?_ ?_ gg0 ?_ (oc9 ?_ ?_ gg0 ?_ ?_ ?_ ?_ ?_ ?_ okn)))))) ?_)
  all_goals clear next; try dsimp only [qt38, qt56, qt4, qt45, qt5, qt46, qt47, qt49, qt50, qt48, qt9, qt2, qt6, qt7, qt19, qt15, qt1, qt20, qt27, qt44, qt22, qt3, qt40, qt18, qt29, qt14, qt33, qt42, qt53, qt16, qt8, qt10, qt37, qt17, qt34, qt35, qt36] at *
  all_goals exact sc48

set_option maxHeartbeats 4000000 in
theorem rsO (s : List UInt8) (T : List Wt) (a n b : Nat) (ha : a < s.length) (hs : s.length ≤ 4000) (hT : T.length ≤ a) (n1 : (s.getD a 0).toNat ≠ 10) (n2 : (s.getD a 0).toNat ≠ 59) (hl : ltrI ((s.getD a 0).toNat : Int) = false) (hf : figI ((s.getD a 0).toNat : Int) = false) (n3 : (s.getD a 0).toNat ≠ 45) (n4 : (s.getD a 0).toNat ≠ 34) (h2 : s.getD a 0 = 123) (hn1 : n = 1) (hb : a + n + gapR false (s.drop (a + n)) = b) (hn : a + n ≤ s.length)  (v : SV) (L' : HF) (next : (RunsTo Tryd.prog 15 (headOf Tryd.f15 0) (envAt Tryd.f15.ntmps ([(0, vS s), (5, vL 102 5 (T ++ [mkW 4 [123] 0 a]).length), (qt55 b)])) (Sx.look ([] ++ (wtE 102 103 (T ++ [mkW 4 [123] 0 a])))) 80 (v) (L') 9000)) :
    (qt21 L' T a s v) := by
  have hw1 : IntKind.i64.wrap ((a : Int) + 1) = ((a + 1 : Nat) : Int) := by rw [wr64 (by omega)]; rfl
  have hw2 : IntKind.i64.wrap ((a : Int) + 2) = ((a + 2 : Nat) : Int) := by rw [wr64 (by omega)]; omega
  have hb0 := u8nat (s.getD a 0)
  have ht1 := sl1 s ha
  have ht2 : a + 1 < s.length → (s.take (a + 2)).drop a = [s.getD a 0, s.getD (a + 1) 0] := fun q => sl2 s q
  have hm45 : ((((s.getD a 0).toNat : Nat) : Int) == 45) = false := beq_eq_false_iff_ne.2 (by omega)
  have hU0 := qtc1
  have hU1 := qtc2
  have hU2 := qtc3
  have hU3 := qtc4
  have hU4 := qtc5
  have hU5 := qtc6
  have hU6 := qtc7
  have hU7 := qtc8
  have hw3 : IntKind.i64.wrap ((a : Int) + ((1 + 1 : Nat) : Int)) = ((a + 2 : Nat) : Int) := by rw [wr64 (by omega)]; omega
  rw [h2] at ht1
  have ht2' : a + 1 < s.length → (s.take (a + 2)).drop a = [123, s.getD (a + 1) 0] := fun q => by rw [ht2 q, h2]
  have hn1' : (n : Int) = 1 := by omega
  have hwn : IntKind.i64.wrap ((a : Int) + (n : Int)) = ((a + n : Nat) : Int) := by rw [wr64 (by omega)]; rfl
  have E' := (⟨hw1, hw2, hwn, hb, hl, hf, hm45, ht1, hU0, hU1, hU2, hU3, hU4, hU5, hU6, hU7, hw3, hn1⟩ : _ ∧ _ ∧ _ ∧ _ ∧ _ ∧ _ ∧ _ ∧ _ ∧ _ ∧ _ ∧ _ ∧ _ ∧ _ ∧ _ ∧ _ ∧ _ ∧ _ ∧ _)
  refine bcase (fun gg0 => (rMo baseRQo 600 (behind Tryd.f15 0) 900 140 (hI 74 122153139082498526232440228327648230005490757) ([((102 : Nat), Rn.to (164 : Nat)), ((103 : Nat), Rn.to (163 : Nat))]) [(qt38 a s), (qt4 a s), (qt45 a s), (qt4 a s), (qt46 a s), (qt4 a s), (qt47 a s), (qt4 a s), (qt49 a s), (qt4 a s), (qt50 a s), (qt4 a s), (qt48 a s), (qt9 a s), (qt6 a s), (qt7 a), (qt51 a s), (qt9 a s), (qt6 a s), (qt7 a), (qt20 a s), (qt9 a s), (qt6 a s), (qt7 a), (qt27 a s), (qt9 a s), (qt6 a s), (qt7 a), (qt28 a s), (qt22 a s), (qt22 a s), (qt22 a s), (qt22 a s), (qt40 T), (qt18 T), (qt29 a s)] (qt11 T a b s) next (oc9 ?_ ?_ ?_ ?_ ?_ ?_ ?_ ?_ ?_ (oc9 ?_ ?_ ?_ ?_ ?_ ?_ ?_ ?_ ?_ (oc9 ?_ ?_ ?_ ?_ ?_ ?_ ?_ ?_ ?_ (oc9 ?_ ?_ gg0 gg0 gg0 gg0 ?_ ?_ ?_ okn)))) ?_)) fun gg0 => (rMo baseRQo 600 (behind Tryd.f15 0) 900 140 (hI 86 2049150872950298063662031611157448682079709457237061) ([((102 : Nat), Rn.to (164 : Nat)), ((103 : Nat), Rn.to (163 : Nat))]) [(qt38 a s), (qt4 a s), (qt45 a s), (qt4 a s), (qt46 a s), (qt4 a s), (qt47 a s), (qt4 a s), (qt49 a s), (qt4 a s), (qt50 a s), (qt4 a s), (qt48 a s), (qt9 a s), (qt6 a s), (qt7 a), (qt51 a s), (qt9 a s), (qt6 a s), (qt7 a), (qt20 a s), (qt9 a s), (qt6 a s), (qt7 a), (qt27 a s), (qt9 a s), (qt6 a s), (qt7 a), (qt28 a s), (qt16 a s), (qt8 a s), (qt10 a), (qt37 a s), (qt16 a s), (qt8 a s), (qt10 a), (qt34 a s), (qt16 a s), (qt8 a s), (qt10 a), (qt35 a s), (qt16 a s), (qt8 a s), (qt10 a), (qt36 a s), (qt40 T), (qt18 T), (qt29 a s)] (qt11 T a b s) next (oc3 ?_ ?_ ?_ (oc9 ?_ ?_ ?_ ?_ ?_ ?_ ?_ ?_ ?_ (oc9 ?_ ?_ ?_ ?_ ?_ ?_ ?_ ?_ ?_ (oc9 ?_ ?_ ?_ ?_ ?_ ?_ ?_ ?_ gg0 (oc9 ?_ ?_ ?_ gg0 ?_ ?_ ?_ gg0 ?_ (oc9 ?_ ?_ gg0 ?_ ?_ ?_ ?_ ?_ ?_ okn)))))) ?_)
  all_goals clear next; try dsimp only [qt38, qt56, qt4, qt45, qt5, qt46, qt47, qt49, qt50, qt48, qt9, qt2, qt6, qt7, qt51, qt15, qt1, qt20, qt27, qt28, qt22, qt3, qt40, qt18, qt29, qt11, qt30, qt42, qt53, qt16, qt8, qt10, qt37, qt17, qt34, qt35, qt36] at *
  all_goals exact sc48

set_option maxHeartbeats 4000000 in
theorem rsC (s : List UInt8) (T : List Wt) (a n b : Nat) (ha : a < s.length) (hs : s.length ≤ 4000) (hT : T.length ≤ a) (n1 : (s.getD a 0).toNat ≠ 10) (n2 : (s.getD a 0).toNat ≠ 59) (hl : ltrI ((s.getD a 0).toNat : Int) = false) (hf : figI ((s.getD a 0).toNat : Int) = false) (n3 : (s.getD a 0).toNat ≠ 45) (n4 : (s.getD a 0).toNat ≠ 34) (h2 : s.getD a 0 = 125) (hn1 : n = 1) (hb : a + n + gapR false (s.drop (a + n)) = b) (hn : a + n ≤ s.length)  (v : SV) (L' : HF) (next : (RunsTo Tryd.prog 15 (headOf Tryd.f15 0) (envAt Tryd.f15.ntmps ([(0, vS s), (5, vL 102 5 (T ++ [mkW 4 [125] 0 a]).length), (qt55 b)])) (Sx.look ([] ++ (wtE 102 103 (T ++ [mkW 4 [125] 0 a])))) 80 (v) (L') 9000)) :
    (qt21 L' T a s v) := by
  have hw1 : IntKind.i64.wrap ((a : Int) + 1) = ((a + 1 : Nat) : Int) := by rw [wr64 (by omega)]; rfl
  have hw2 : IntKind.i64.wrap ((a : Int) + 2) = ((a + 2 : Nat) : Int) := by rw [wr64 (by omega)]; omega
  have hb0 := u8nat (s.getD a 0)
  have ht1 := sl1 s ha
  have ht2 : a + 1 < s.length → (s.take (a + 2)).drop a = [s.getD a 0, s.getD (a + 1) 0] := fun q => sl2 s q
  have hm45 : ((((s.getD a 0).toNat : Nat) : Int) == 45) = false := beq_eq_false_iff_ne.2 (by omega)
  have hU0 := qtc1
  have hU1 := qtc2
  have hU2 := qtc3
  have hU3 := qtc4
  have hU4 := qtc5
  have hU5 := qtc6
  have hU6 := qtc7
  have hU7 := qtc8
  have hw3 : IntKind.i64.wrap ((a : Int) + ((1 + 1 : Nat) : Int)) = ((a + 2 : Nat) : Int) := by rw [wr64 (by omega)]; omega
  rw [h2] at ht1
  have ht2' : a + 1 < s.length → (s.take (a + 2)).drop a = [125, s.getD (a + 1) 0] := fun q => by rw [ht2 q, h2]
  have hn1' : (n : Int) = 1 := by omega
  have hwn : IntKind.i64.wrap ((a : Int) + (n : Int)) = ((a + n : Nat) : Int) := by rw [wr64 (by omega)]; rfl
  have E' := (⟨hw1, hw2, hwn, hb, hl, hf, hm45, ht1, hU0, hU1, hU2, hU3, hU4, hU5, hU6, hU7, hw3, hn1⟩ : _ ∧ _ ∧ _ ∧ _ ∧ _ ∧ _ ∧ _ ∧ _ ∧ _ ∧ _ ∧ _ ∧ _ ∧ _ ∧ _ ∧ _ ∧ _ ∧ _ ∧ _)
  refine bcase (fun gg0 => (rMo baseRQo 600 (behind Tryd.f15 0) 900 140 (hI 74 122153139082498526232440232939263879688700997) ([((102 : Nat), Rn.to (164 : Nat)), ((103 : Nat), Rn.to (163 : Nat))]) [(qt38 a s), (qt4 a s), (qt45 a s), (qt4 a s), (qt46 a s), (qt4 a s), (qt47 a s), (qt4 a s), (qt49 a s), (qt4 a s), (qt50 a s), (qt4 a s), (qt48 a s), (qt9 a s), (qt6 a s), (qt7 a), (qt19 a s), (qt9 a s), (qt6 a s), (qt7 a), (qt52 a s), (qt9 a s), (qt6 a s), (qt7 a), (qt27 a s), (qt9 a s), (qt6 a s), (qt7 a), (qt28 a s), (qt22 a s), (qt22 a s), (qt22 a s), (qt22 a s), (qt40 T), (qt18 T), (qt29 a s)] (qt12 T a b s) next (oc9 ?_ ?_ ?_ ?_ ?_ ?_ ?_ ?_ ?_ (oc9 ?_ ?_ ?_ ?_ ?_ ?_ ?_ ?_ ?_ (oc9 ?_ ?_ ?_ ?_ ?_ ?_ ?_ ?_ ?_ (oc9 ?_ ?_ gg0 gg0 gg0 gg0 ?_ ?_ ?_ okn)))) ?_)) fun gg0 => (rMo baseRQo 600 (behind Tryd.f15 0) 900 140 (hI 86 2049150872950298063662031611157453293695359140447301) ([((102 : Nat), Rn.to (164 : Nat)), ((103 : Nat), Rn.to (163 : Nat))]) [(qt38 a s), (qt4 a s), (qt45 a s), (qt4 a s), (qt46 a s), (qt4 a s), (qt47 a s), (qt4 a s), (qt49 a s), (qt4 a s), (qt50 a s), (qt4 a s), (qt48 a s), (qt9 a s), (qt6 a s), (qt7 a), (qt19 a s), (qt9 a s), (qt6 a s), (qt7 a), (qt52 a s), (qt9 a s), (qt6 a s), (qt7 a), (qt27 a s), (qt9 a s), (qt6 a s), (qt7 a), (qt28 a s), (qt16 a s), (qt8 a s), (qt10 a), (qt37 a s), (qt16 a s), (qt8 a s), (qt10 a), (qt34 a s), (qt16 a s), (qt8 a s), (qt10 a), (qt35 a s), (qt16 a s), (qt8 a s), (qt10 a), (qt36 a s), (qt40 T), (qt18 T), (qt29 a s)] (qt12 T a b s) next (oc3 ?_ ?_ ?_ (oc9 ?_ ?_ ?_ ?_ ?_ ?_ ?_ ?_ ?_ (oc9 ?_ ?_ ?_ ?_ ?_ ?_ ?_ ?_ ?_ (oc9 ?_ ?_ ?_ ?_ ?_ ?_ ?_ ?_ gg0 (oc9 ?_ ?_ ?_ gg0 ?_ ?_ ?_ gg0 ?_ (oc9 ?_ ?_ gg0 ?_ ?_ ?_ ?_ ?_ ?_ okn)))))) ?_)
  all_goals clear next; try dsimp only [qt38, qt56, qt4, qt45, qt5, qt46, qt47, qt49, qt50, qt48, qt9, qt2, qt6, qt7, qt19, qt15, qt1, qt52, qt27, qt28, qt22, qt3, qt40, qt18, qt29, qt12, qt31, qt42, qt53, qt16, qt8, qt10, qt37, qt17, qt34, qt35, qt36] at *
  all_goals exact sc48

set_option maxHeartbeats 4000000 in
theorem rsF (s : List UInt8) (T : List Wt) (a n b : Nat) (ha : a < s.length) (hs : s.length ≤ 4000) (hT : T.length ≤ a) (n1 : (s.getD a 0).toNat ≠ 10) (n2 : (s.getD a 0).toNat ≠ 59) (hl : ltrI ((s.getD a 0).toNat : Int) = false) (hf : figI ((s.getD a 0).toNat : Int) = false) (n3 : (s.getD a 0).toNat ≠ 45) (n4 : (s.getD a 0).toNat ≠ 34) (m1 : s.getD a 0 ≠ 123) (m2 : s.getD a 0 ≠ 125) (m3 : s.getD a 0 ≠ 60 ) (m4 : s.getD a 0 ≠ 62) (n5 : a + 1 < s.length → ¬ ((s.getD a 0 = 61 ∨ s.getD a 0 = 33) ∧ s.getD (a + 1) 0 = 61))  :
    (RunsTo Tryd.prog 15 (headOf Tryd.f15 0) (envAt Tryd.f15.ntmps ([(0, vS s), (5, vL 102 5 (T).length), (6, vN (a : Nat))])) (Sx.look ([] ++ (wtE 102 103 (T)))) 80 (.tup [(false, .vl0), (false, .vi .i64 fun _ => ((a : Nat) : Int)), (false, .vi .i64 fun _ => (5 : Int))]) (Sx.look ([])) 9000) := by
  have hw1 : IntKind.i64.wrap ((a : Int) + 1) = ((a + 1 : Nat) : Int) := by rw [wr64 (by omega)]; rfl
  have hw2 : IntKind.i64.wrap ((a : Int) + 2) = ((a + 2 : Nat) : Int) := by rw [wr64 (by omega)]; omega
  have hb0 := u8nat (s.getD a 0)
  have ht1 := sl1 s ha
  have ht2 : a + 1 < s.length → (s.take (a + 2)).drop a = [s.getD a 0, s.getD (a + 1) 0] := fun q => sl2 s q
  have hm45 : ((((s.getD a 0).toNat : Nat) : Int) == 45) = false := beq_eq_false_iff_ne.2 (by omega)
  have hU0 := qtc1
  have hU1 := qtc2
  have hU2 := qtc3
  have hU3 := qtc4
  have hU4 := qtc5
  have hU5 := qtc6
  have hU6 := qtc7
  have hU7 := qtc8
  have hw3 : IntKind.i64.wrap ((a : Int) + ((1 + 1 : Nat) : Int)) = ((a + 2 : Nat) : Int) := by rw [wr64 (by omega)]; omega
  have E' := (⟨hw1, hw2, hl, hf, hm45, ht1, hU0, hU1, hU2, hU3, hU4, hU5, hU6, hU7, hw3⟩ : _ ∧ _ ∧ _ ∧ _ ∧ _ ∧ _ ∧ _ ∧ _ ∧ _ ∧ _ ∧ _ ∧ _ ∧ _ ∧ _ ∧ _)
  refine bcase (fun gg0 => (rEn baseRQo 600 (99) 900 140 (hI 70 1241286209215303886926255818062526221075525) ([]) [(qt38 a s), (qt4 a s), (qt45 a s), (qt4 a s), (qt46 a s), (qt4 a s), (qt47 a s), (qt4 a s), (qt49 a s), (qt4 a s), (qt50 a s), (qt4 a s), (qt48 a s), (qt9 a s), (qt6 a s), (qt7 a), (qt19 a s), (qt9 a s), (qt6 a s), (qt7 a), (qt20 a s), (qt9 a s), (qt6 a s), (qt7 a), (qt27 a s), (qt9 a s), (qt6 a s), (qt7 a), (qt28 a s), (qt22 a s), (qt22 a s), (qt22 a s), (qt22 a s)] (qt54 a) (oc6 ?_ ?_ ?_ ?_ ?_ ?_ (oc9 ?_ ?_ ?_ ?_ ?_ ?_ ?_ ?_ ?_ (oc9 ?_ ?_ ?_ ?_ ?_ ?_ ?_ ?_ ?_ (oc9 ?_ ?_ ?_ ?_ ?_ gg0 gg0 gg0 gg0 okn)))) ?_)) fun gg0 => (rEn baseRQo 600 (99) 900 140 (hI 82 20586600335004813195317063347247850726906343408709) ([]) [(qt38 a s), (qt4 a s), (qt45 a s), (qt4 a s), (qt46 a s), (qt4 a s), (qt47 a s), (qt4 a s), (qt49 a s), (qt4 a s), (qt50 a s), (qt4 a s), (qt48 a s), (qt9 a s), (qt6 a s), (qt7 a), (qt19 a s), (qt9 a s), (qt6 a s), (qt7 a), (qt20 a s), (qt9 a s), (qt6 a s), (qt7 a), (qt27 a s), (qt9 a s), (qt6 a s), (qt7 a), (qt28 a s), (qt16 a s), (qt8 a s), (qt10 a), (qt37 a s), (qt16 a s), (qt8 a s), (qt10 a), (qt34 a s), (qt16 a s), (qt8 a s), (qt10 a), (qt35 a s), (qt16 a s), (qt8 a s), (qt10 a), (qt36 a s)] (qt54 a) (oc9 ?_ ?_ ?_ ?_ ?_ ?_ ?_ ?_ ?_ (oc9 ?_ ?_ ?_ ?_ ?_ ?_ ?_ ?_ ?_ (oc9 ?_ ?_ ?_ ?_ ?_ ?_ ?_ ?_ ?_ (oc9 ?_ ?_ gg0 ?_ ?_ ?_ gg0 ?_ ?_ (oc9 ?_ gg0 ?_ ?_ ?_ gg0 ?_ ?_ ?_ okn))))) ?_)
  all_goals try dsimp only [qt38, qt56, qt4, qt45, qt5, qt46, qt47, qt49, qt50, qt48, qt9, qt2, qt6, qt7, qt19, qt15, qt1, qt20, qt27, qt28, qt22, qt3, qt54, qt16, qt8, qt10, qt37, qt17, qt34, qt35, qt36] at *
  all_goals exact sc49

end Go.Proofs.YtaleenklamognaaDoor

set_option linter.unusedSimpArgs false
set_option linter.unusedVariables false
set_option maxRecDepth 100000
namespace Go.Proofs.YtaleenklamognaaDoor
open Go.Sx

open WordR
/-- Figures without zeros ahead. -/
def dz : List UInt8 → List UInt8
  | [] => []
  | c :: r => if c = 48 then dz r else c :: r
def digs (D : List UInt8) : Prop := ∀ c ∈ D, 48 ≤ c.toNat ∧ c.toNat ≤ 57
theorem decA_snoc : ∀ (A : List UInt8) (n : Int) (c : UInt8), decA n (A ++ [c]) = 10 * decA n A + (nat c - 48)
  | [], n, c => rfl
  | d :: A, n, c => by rw [List.cons_append, decA, decA, decA_snoc A]
theorem dz_snoc : ∀ (A : List UInt8) (c : UInt8), dz (A ++ [c]) = if dz A = [] then (if c = 48 then [] else [c]) else dz A ++ [c]
  | [], c => by by_cases h : c = 48 <;> simp [dz, h]
  | d :: A, c => by
    by_cases h : d = 48
    · rw [List.cons_append, dz, if_pos h, dz_snoc A c, dz, if_pos h]
    · rw [List.cons_append, dz, if_neg h, dz, if_neg h, if_neg (by simp)]; rfl
theorem dz_len : ∀ D : List UInt8, (dz D).length ≤ D.length
  | [] => Nat.le_refl _
  | c :: r => by
    have := dz_len r
    rw [dz]; split <;> simp only [List.length_cons] <;> omega
theorem dz_eq (D : List UInt8) : dz D = D ↔ (D = [] ∨ D.headD 0 ≠ 48) := by
  cases D with
  | nil => simp [dz]
  | cons c r =>
    rw [dz, List.headD_cons]
    by_cases h : c = 48
    · rw [if_pos h]
      constructor
      · intro e
        have := congrArg List.length e
        have h2 := dz_len r
        rw [List.length_cons] at this; omega
      · rintro (e | e)
        · cases e
        · exact absurd h e
    · rw [if_neg h]; exact ⟨fun _ => .inr h, fun _ => rfl⟩
theorem decL_dz : ∀ (k : Nat) (D : List UInt8), D.length = k → digs D → 0 ≤ decA 0 D ∧ decL (decA 0 D).toNat = dz D ∧ (dz D = [] ↔ decA 0 D = 0) := by
  intro k
  induction k with
  | zero =>
    intro D h _
    obtain rfl := List.length_eq_zero_iff.1 h
    exact ⟨Int.le_refl _, decL_0, by simp [dz, decA]⟩
  | succ k ih =>
    intro D h hd
    rcases snoc_or D with rfl | ⟨A, c, rfl⟩
    · simp at h
    have hc := hd c (by simp)
    obtain ⟨i1, i2, i3⟩ := ih A (by simpa using h) (fun x hx => hd x (by simp [hx]))
    rw [decA_snoc, dz_snoc]
    unfold nat
    have e0 : ∀ x : Int, 0 ≤ x → (10 * x + ((c.toNat : Int) - 48)).toNat = 10 * x.toNat + (c.toNat - 48) := fun x hx => by omega
    rw [e0 _ i1]
    have hu : UInt8.ofNat (48 + (c.toNat - 48)) = c := by rw [show 48 + (c.toNat - 48) = c.toNat by omega]; simp
    have h48 : c = 48 ↔ c.toNat = 48 := ⟨fun e => by rw [e]; rfl, fun e => UInt8.toNat_inj.1 e⟩
    by_cases hz : dz A = []
    · have hA := i3.1 hz
      rw [if_pos hz, hA]
      by_cases hc0 : c = 48
      · rw [if_pos hc0]
        have := h48.1 hc0
        refine ⟨by omega, ?_, ⟨fun _ => by omega, fun _ => rfl⟩⟩
        rw [show 10 * (0 : Int).toNat + (c.toNat - 48) = 0 by simp; omega]; exact decL_0
      · rw [if_neg hc0]
        have h1 : c.toNat ≠ 48 := fun e => hc0 (h48.2 e)
        refine ⟨by omega, ?_, ⟨fun e => by simp at e, fun e => by omega⟩⟩
        rw [show 10 * (0 : Int).toNat + (c.toNat - 48) = c.toNat - 48 by simp, decL_p (by omega), show (c.toNat - 48) / 10 = 0 by omega, decL_0, show (c.toNat - 48) % 10 = c.toNat - 48 by omega, hu]
        rfl
    · have hA : decA 0 A ≠ 0 := fun e => hz (i3.2 e)
      rw [if_neg hz]
      refine ⟨by omega, ?_, ⟨fun e => by simp at e, fun e => by omega⟩⟩
      rw [decL_p (by omega), show (10 * (decA 0 A).toNat + (c.toNat - 48)) / 10 = (decA 0 A).toNat by omega, show (10 * (decA 0 A).toNat + (c.toNat - 48)) % 10 = c.toNat - 48 by omega, hu, i2]
theorem fig_all (D : List UInt8) (h0 : D ≠ []) (hd : digs D) : (figS (decR D) = D ↔ ¬ (1 < D.length ∧ D.headD 0 = 48)) ∧ (figS (0 - decR D) = 45 :: D ↔ ¬ (1 < D.length ∧ D.headD 0 = 48) ∧ D ≠ [48]) := by
  obtain ⟨i1, i2, i3⟩ := decL_dz D.length D rfl hd
  unfold decR figS
  obtain ⟨c, r, rfl⟩ : ∃ c r, D = c :: r := by
    cases D with
    | nil => exact absurd rfl h0
    | cons c r => exact ⟨c, r, rfl⟩
  by_cases hz : decA 0 (c :: r) = 0
  · have hdz := i3.2 hz
    have hc : c = 48 := by
      rw [dz] at hdz
      split at hdz
      · assumption
      · cases hdz
    subst hc
    rw [hz, if_pos rfl, if_pos (by decide)]
    simp only [List.headD_cons, and_true]
    cases r with
    | nil => simp
    | cons d q => simp
  · have hab : (decA 0 (c :: r)).natAbs = (decA 0 (c :: r)).toNat := by omega
    have hab2 : (0 - decA 0 (c :: r)).natAbs = (decA 0 (c :: r)).toNat := by omega
    rw [if_neg hz, if_neg (by omega), if_neg (by omega), if_pos (by omega), hab, hab2, i2]
    have he := dz_eq (c :: r)
    have hl : c = 48 → 1 < (c :: r).length := fun e => by
      cases r with
      | nil => subst e; exact absurd rfl hz
      | cons d q => simp
    have h48 : c = 48 → c :: r ≠ [48] := fun e q => by have := hl e; rw [q] at this; simp at this
    simp only [List.headD_cons, reduceCtorEq, false_or, List.nil_append, List.cons_append, List.cons.injEq, true_and] at he ⊢
    rw [he]
    constructor
    · constructor
      · intro h e; exact h e.2
      · intro h e; exact h ⟨hl e, e⟩
    · constructor
      · intro h
        exact ⟨fun e => h e.2, fun e => h (List.cons.inj e).1⟩
      · intro h e; exact h.1 ⟨hl e, e⟩
theorem digs_take (s : List UInt8) (a : Nat) : digs ((s.drop a).take (spanR figI (s.drop a))) := by
  intro c hc
  obtain ⟨j, hj, rfl⟩ := List.getElem_of_mem hc
  have hj2 : j < spanR figI (s.drop a) := by rw [List.length_take] at hj; omega
  have := span_all figI (s.drop a) j hj2
  rw [← getD_take (s.drop a) hj2, List.getD_eq_getElem?_getD, List.getElem?_eq_getElem hj, Option.getD_some] at this
  have h2 := of_decide_eq_true this
  unfold nat at h2
  omega
theorem rqInm (s : List UInt8) (T : List Wt) (a k : Nat) (D : List UInt8) (ha : a < s.length) (hs : s.length ≤ 4000) (hT : T.length ≤ a) (hDl : D.length = k) (hk : k ≤ 9) (hd : digs D) (v : SV) (L' : HF) : ∀ (j i : Nat) (num : Int), i + j = k → 0 ≤ num → num < (10 ^ i : Nat) →
    (∀ num', 0 ≤ num' ∧ num' ≤ 100000000000 → num' = decA num (D.drop i) → RunsTo Tryd.prog 15 (headOf Tryd.f15 1) (envAt Tryd.f15.ntmps ([(0, vS s), (5, vL 102 5 T.length), (6, vN (a : Nat)), (7, vP 104), (8, vN (k + 1 : Nat)), (9, vN 0), (10, vN 1), (11, vN (k : Nat)), (12, vS D), (13, vN (k : Nat))])) (Sx.look ([] ++ (wtE 102 103 T ++ [⟨104, true, none, 5, .tc (.vi .i64 fun _ => 2) (.tc (.vs fun _ => []) (.tc (.vi .i64 fun _ => num') (.tc .vl0 (.tc (.vi .i64 fun _ => (a : Int)) .t0))))⟩]))) 80 (v) (L') 9000) → RunsTo Tryd.prog 15 (headOf Tryd.f15 1) (envAt Tryd.f15.ntmps ([(0, vS s), (5, vL 102 5 T.length), (6, vN (a : Nat)), (7, vP 104), (8, vN (k + 1 : Nat)), (9, vN 0), (10, vN 1), (11, vN (k : Nat)), (12, vS D), (13, vN (i : Nat))])) (Sx.look ([] ++ (wtE 102 103 T ++ [⟨104, true, none, 5, .tc (.vi .i64 fun _ => 2) (.tc (.vs fun _ => []) (.tc (.vi .i64 fun _ => num) (.tc .vl0 (.tc (.vi .i64 fun _ => (a : Int)) .t0))))⟩]))) 80 (v) (L') 9000 := by
  intro j
  induction j with
  | zero =>
    intro i num hi h0 h1 q
    have hp : (10 ^ i : Nat) ≤ 10 ^ 9 := Nat.pow_le_pow_right (by decide) (by omega)
    have := q num ⟨h0, by omega⟩ (by rw [show D.drop i = [] from List.drop_eq_nil_of_le (by omega)]; rfl)
    rw [show k = i by omega] at this
    rw [show k = i by omega]
    exact this
  | succ j ih =>
    intro i num hi h0 h1 q
    have hp : (10 ^ i : Nat) ≤ 10 ^ 8 := Nat.pow_le_pow_right (by decide) (by omega)
    have hdi := hd (D.getD i 0) (by rw [List.getD_eq_getElem?_getD, List.getElem?_eq_getElem (show i < D.length by omega), Option.getD_some]; exact List.getElem_mem _)
    refine rqRm s T a 0 0 k D num i ha hs hT (by omega) (by omega) hDl (by omega) ⟨h0, by omega⟩ hdi _ _ ?_
    refine ih (i + 1) _ (by omega) (by omega) (by rw [Nat.pow_succ]; omega) (fun n' hn' e => q n' hn' ?_)
    rw [e, drop_at D (i := i) (by omega), decA]; rfl
theorem rqInp (s : List UInt8) (T : List Wt) (a k : Nat) (D : List UInt8) (ha : a < s.length) (hs : s.length ≤ 4000) (hT : T.length ≤ a) (hDl : D.length = k) (hk : k ≤ 9) (hd : digs D) (v : SV) (L' : HF) : ∀ (j i : Nat) (num : Int), i + j = k → 0 ≤ num → num < (10 ^ i : Nat) →
    (∀ num', 0 ≤ num' ∧ num' ≤ 100000000000 → num' = decA num (D.drop i) → RunsTo Tryd.prog 15 (headOf Tryd.f15 1) (envAt Tryd.f15.ntmps ([(0, vS s), (5, vL 102 5 T.length), (6, vN (a : Nat)), (7, vP 104), (8, vN (k + 0 : Nat)), (9, vN 0), (10, vN 0), (11, vN (k : Nat)), (12, vS D), (13, vN (k : Nat))])) (Sx.look ([] ++ (wtE 102 103 T ++ [⟨104, true, none, 5, .tc (.vi .i64 fun _ => 2) (.tc (.vs fun _ => []) (.tc (.vi .i64 fun _ => num') (.tc .vl0 (.tc (.vi .i64 fun _ => (a : Int)) .t0))))⟩]))) 80 (v) (L') 9000) → RunsTo Tryd.prog 15 (headOf Tryd.f15 1) (envAt Tryd.f15.ntmps ([(0, vS s), (5, vL 102 5 T.length), (6, vN (a : Nat)), (7, vP 104), (8, vN (k + 0 : Nat)), (9, vN 0), (10, vN 0), (11, vN (k : Nat)), (12, vS D), (13, vN (i : Nat))])) (Sx.look ([] ++ (wtE 102 103 T ++ [⟨104, true, none, 5, .tc (.vi .i64 fun _ => 2) (.tc (.vs fun _ => []) (.tc (.vi .i64 fun _ => num) (.tc .vl0 (.tc (.vi .i64 fun _ => (a : Int)) .t0))))⟩]))) 80 (v) (L') 9000 := by
  intro j
  induction j with
  | zero =>
    intro i num hi h0 h1 q
    have hp : (10 ^ i : Nat) ≤ 10 ^ 9 := Nat.pow_le_pow_right (by decide) (by omega)
    have := q num ⟨h0, by omega⟩ (by rw [show D.drop i = [] from List.drop_eq_nil_of_le (by omega)]; rfl)
    rw [show k = i by omega] at this
    rw [show k = i by omega]
    exact this
  | succ j ih =>
    intro i num hi h0 h1 q
    have hp : (10 ^ i : Nat) ≤ 10 ^ 8 := Nat.pow_le_pow_right (by decide) (by omega)
    have hdi := hd (D.getD i 0) (by rw [List.getD_eq_getElem?_getD, List.getElem?_eq_getElem (show i < D.length by omega), Option.getD_some]; exact List.getElem_mem _)
    refine rqRp s T a 0 0 k D num i ha hs hT (by omega) (by omega) hDl (by omega) ⟨h0, by omega⟩ hdi _ _ ?_
    refine ih (i + 1) _ (by omega) (by omega) (by rw [Nat.pow_succ]; omega) (fun n' hn' e => q n' hn' ?_)
    rw [e, drop_at D (i := i) (by omega), decA]; rfl
def RQR (T : List Wt) (X : SV → HF → Prop) : List Wt × Nat × Nat → Prop
  | (T', p, 0) => X (.tup [(false, .vl 102 (fun _ => 0) 5 [] (fun _ => (T ++ T').length)), (false, .vi .i64 fun _ => 0), (false, .vi .i64 fun _ => 0)]) (Sx.look (wtE 102 103 (T ++ T')))
  | (_, p, e + 1) => X (.tup [(false, .vl0), (false, .vi .i64 fun _ => ((p : Nat) : Int)), (false, .vi .i64 fun _ => ((e + 1 : Nat) : Int))]) (Sx.look [])
theorem RQR.step {T : List Wt} {X Y : SV → HF → Prop} (h : ∀ v L', X v L' → Y v L') : ∀ {r : List Wt × Nat × Nat}, RQR T X r → RQR T Y r
  | (T', p, 0), q => h _ _ q
  | (_, p, e + 1), q => h _ _ q
/-- What comes of a token. -/
def RQK (s : List UInt8) (T : List Wt) (a : Nat) (X : SV → HF → Prop) : TR → Prop
  | .ok t n => ∀ v L', RunsTo Tryd.prog 15 (headOf Tryd.f15 0) (envAt Tryd.f15.ntmps ([(0, vS s), (5, vL 102 5 (T ++ [atW t a]).length), (6, vN ((a + n + gapR false (s.drop (a + n))) : Nat))])) (Sx.look ([] ++ (wtE 102 103 (T ++ [atW t a])))) 80 (v) (L') 9000 → X v L'
  | .err e => X (.tup [(false, .vl0), (false, .vi .i64 fun _ => ((a : Nat) : Int)), (false, .vi .i64 fun _ => ((e : Nat) : Int))]) (Sx.look [])
theorem rqKm (s : List UInt8) (T : List Wt) (a : Nat) (ha : a < s.length) (hs : s.length ≤ 4000) (hT : T.length ≤ a) (n1 : (s.getD a 0).toNat ≠ 10) (n2 : (s.getD a 0).toNat ≠ 59) (hl : ltrI ((s.getD a 0).toNat : Int) = false) (hm : (s.getD a 0).toNat = 45) : RQK s T a (fun v L' => RunsTo Tryd.prog 15 (headOf Tryd.f15 0) (envAt Tryd.f15.ntmps ([(0, vS s), (5, vL 102 5 (T).length), (6, vN (a : Nat))])) (Sx.look ([] ++ (wtE 102 103 (T)))) 80 (v) (L') 9000) (numK true (s.drop (a + 1))) := by
  have hle := span_le' figI s (a := (a + 1)) (by omega)
  have hdig := digs_take s (a + 1)
  unfold numK
  generalize hk : spanR figI (s.drop (a + 1)) = k at *
  have hD : (s.take ((a + 1) + k)).drop (a + 1) = (s.drop (a + 1)).take k := take_drop _ _ _
  have hDl : ((s.drop (a + 1)).take k).length = k := by rw [List.length_take, List.length_drop]; omega
  have hDs : (s.take ((a + 1) + k)).drop a = 45 :: (s.drop (a + 1)).take k := by rw [show a + 1 + k = a + (k + 1) by omega, take_drop, drop_at s ha, List.take_succ_cons, show s.getD a 0 = 45 from UInt8.toNat_inj.1 hm]
  have hhd : 0 < k → (s.drop (a + 1)).headD 0 = ((s.drop (a + 1)).take k).headD 0 := fun h => by rw [headD_getD, headD_getD, getD_take _ h]
  have hnx : ((s.drop (a + 1)).drop k).headD 0 = s.getD ((a + 1) + k) 0 := by rw [List.drop_drop, head_drop]
  rw [hnx]
  generalize (s.drop (a + 1)).take k = D at *
  have st : ∀ v L', _ → _ := rqUm s T a 0 0 k D 0 0 ha hs hT n1 n2 hl hm hk hD hle
  by_cases h9 : 9 < k
  · rw [if_pos h9]
    exact st _ _ (rqULm s T a 0 0 k D 0 0 ha hs hT (by omega) (by omega) hle h9)
  rw [if_neg h9]
  have st2 : ∀ v L', (∀ num', 0 ≤ num' ∧ num' ≤ 100000000000 → num' = decR D → _) → _ := fun v L' q => st v L' (rqInm s T a k D ha hs hT hDl (by omega) hdig v L' k 0 0 (by omega) (by omega) (by decide) (fun n' h1 h2 => q n' h1 (by rw [List.drop_zero] at h2; exact h2)))
  by_cases h0 : k = 0
  · rw [if_pos (.inl h0)]
    exact st2 _ _ fun num' hn' _ => rqU0m s T a 0 0 k D num' k ha hs hT rfl hn' hle h0
  have hne : D ≠ [] := fun e => by rw [e] at hDl; simp at hDl; omega
  have hfig := (fig_all D hne hdig).2
  rw [hDl] at hfig
  by_cases h1 : (1 < k ∧ (s.drop (a + 1)).headD 0 = 48) ∨ (true = true ∧ D = [48])
  · rw [if_pos (.inr (h1.imp id (fun e => .inl e)))]
    have hF : figS (0 - decR D) ≠ (s.take ((a + 1) + k)).drop a := by
      rw [hDs]
      intro e
      have := hfig.1 e
      rcases h1 with h1 | h1
      · exact this.1 ⟨h1.1, by rw [← hhd (by omega)]; exact h1.2⟩
      · exact this.2 h1.2
    refine st2 _ _ fun num' hn' e => ?_
    subst e
    exact rqUFm s T a 0 0 k D _ k ha hs hT rfl hn' hle (by omega) (by omega) hF
  have hF : figS (0 - decR D) = (s.take ((a + 1) + k)).drop a := by
    rw [hDs]
    exact hfig.2 (⟨fun e => h1 (.inl ⟨e.1, by rw [hhd (by omega)]; exact e.2⟩), fun e => h1 (.inr ⟨rfl, e⟩)⟩)
  cases hg : goI (nat (s.getD ((a + 1) + k) 0)) with
  | true =>
    have hg1 : (a + 1) + k < s.length := by
      refine Nat.lt_of_not_le fun q => ?_
      rw [List.getD_eq_getElem?_getD, List.getElem?_eq_none q] at hg
      exact absurd hg (by decide)
    have hnf := span_at figI s (a + 1) (by rw [hk]; exact hg1)
    rw [hk] at hnf
    have hg2 : ltrI ((s.getD ((a + 1) + k) 0).toNat : Int) = true := by
      unfold goI nat at hg
      rw [hnf, Bool.or_false] at hg
      exact hg
    rw [if_pos (.inr (.inr (.inr rfl)))]
    refine st2 _ _ fun num' hn' e => ?_
    subst e
    exact rqUGm s T a 0 0 k D _ k ha hs hT rfl hn' hle (by omega) (by omega) hF hg1 hg2
  | false =>
    rw [if_neg (by rintro (e | e | e | e); exact h0 e; exact h1 (.inl e); exact h1 (.inr e); exact absurd e (by decide))]
    intro v L' nx
    refine st2 _ _ fun num' hn' e => ?_
    subst e
    have hg2 : ltrI ((s.getD ((a + 1) + k) 0).toNat : Int) = false := by
      unfold goI nat at hg
      exact (Bool.or_eq_false_iff.1 hg).1
    refine rqUOm s T a (k + 1) _ k D _ k ha hs hT rfl hn' hle (by omega) (by omega) hF (fun _ => hg2) rfl rfl _ _ ?_
    have e1 : a + (k + if true = true then 1 else 0) = (a + 1) + k := by rw [if_pos rfl]; omega
    rw [e1, show (if true = true then - decR D else decR D) = (0 - decR D) by rw [if_pos rfl]; omega] at nx
    exact nx
theorem rqKp (s : List UInt8) (T : List Wt) (a : Nat) (ha : a < s.length) (hs : s.length ≤ 4000) (hT : T.length ≤ a) (n1 : (s.getD a 0).toNat ≠ 10) (n2 : (s.getD a 0).toNat ≠ 59) (hl : ltrI ((s.getD a 0).toNat : Int) = false) (hm : (s.getD a 0).toNat ≠ 45) (hf : figI ((s.getD a 0).toNat : Int) = true) : RQK s T a (fun v L' => RunsTo Tryd.prog 15 (headOf Tryd.f15 0) (envAt Tryd.f15.ntmps ([(0, vS s), (5, vL 102 5 (T).length), (6, vN (a : Nat))])) (Sx.look ([] ++ (wtE 102 103 (T)))) 80 (v) (L') 9000) (numK false (s.drop a)) := by
  have hle := span_le' figI s (a := a) (by omega)
  have hdig := digs_take s a
  unfold numK
  generalize hk : spanR figI (s.drop a) = k at *
  have hD : (s.take (a + k)).drop a = (s.drop a).take k := take_drop _ _ _
  have hDl : ((s.drop a).take k).length = k := by rw [List.length_take, List.length_drop]; omega
  have hDs : (s.take (a + k)).drop a = (s.drop a).take k := by exact hD
  have hhd : 0 < k → (s.drop a).headD 0 = ((s.drop a).take k).headD 0 := fun h => by rw [headD_getD, headD_getD, getD_take _ h]
  have hnx : ((s.drop a).drop k).headD 0 = s.getD (a + k) 0 := by rw [List.drop_drop, head_drop]
  rw [hnx]
  generalize (s.drop a).take k = D at *
  have st : ∀ v L', _ → _ := rqUp s T a 0 0 k D 0 0 ha hs hT n1 n2 hl hm hf hk hD hle
  by_cases h9 : 9 < k
  · rw [if_pos h9]
    exact st _ _ (rqULp s T a 0 0 k D 0 0 ha hs hT (by omega) (by omega) hle h9)
  rw [if_neg h9]
  have st2 : ∀ v L', (∀ num', 0 ≤ num' ∧ num' ≤ 100000000000 → num' = decR D → _) → _ := fun v L' q => st v L' (rqInp s T a k D ha hs hT hDl (by omega) hdig v L' k 0 0 (by omega) (by omega) (by decide) (fun n' h1 h2 => q n' h1 (by rw [List.drop_zero] at h2; exact h2)))
  by_cases h0 : k = 0
  · rw [if_pos (.inl h0)]
    exact st2 _ _ fun num' hn' _ => rqU0p s T a 0 0 k D num' k ha hs hT rfl hn' hle h0
  have hne : D ≠ [] := fun e => by rw [e] at hDl; simp at hDl; omega
  have hfig := (fig_all D hne hdig).1
  rw [hDl] at hfig
  by_cases h1 : (1 < k ∧ (s.drop a).headD 0 = 48) ∨ (false = true ∧ D = [48])
  · rw [if_pos (.inr (h1.imp id (fun e => .inl e)))]
    have hF : figS (decR D) ≠ (s.take (a + k)).drop a := by
      rw [hDs]
      intro e
      have := hfig.1 e
      rcases h1 with h1 | h1
      · exact this ⟨h1.1, by rw [← hhd (by omega)]; exact h1.2⟩
      · exact absurd h1.1 (by decide)
    refine st2 _ _ fun num' hn' e => ?_
    subst e
    exact rqUFp s T a 0 0 k D _ k ha hs hT rfl hn' hle (by omega) (by omega) hF
  have hF : figS (decR D) = (s.take (a + k)).drop a := by
    rw [hDs]
    exact hfig.2 (fun e => h1 (.inl ⟨e.1, by rw [hhd (by omega)]; exact e.2⟩))
  cases hg : goI (nat (s.getD (a + k) 0)) with
  | true =>
    have hg1 : a + k < s.length := by
      refine Nat.lt_of_not_le fun q => ?_
      rw [List.getD_eq_getElem?_getD, List.getElem?_eq_none q] at hg
      exact absurd hg (by decide)
    have hnf := span_at figI s a (by rw [hk]; exact hg1)
    rw [hk] at hnf
    have hg2 : ltrI ((s.getD (a + k) 0).toNat : Int) = true := by
      unfold goI nat at hg
      rw [hnf, Bool.or_false] at hg
      exact hg
    rw [if_pos (.inr (.inr (.inr rfl)))]
    refine st2 _ _ fun num' hn' e => ?_
    subst e
    exact rqUGp s T a 0 0 k D _ k ha hs hT rfl hn' hle (by omega) (by omega) hF hg1 hg2
  | false =>
    rw [if_neg (by rintro (e | e | e | e); exact h0 e; exact h1 (.inl e); exact h1 (.inr e); exact absurd e (by decide))]
    intro v L' nx
    refine st2 _ _ fun num' hn' e => ?_
    subst e
    have hg2 : ltrI ((s.getD (a + k) 0).toNat : Int) = false := by
      unfold goI nat at hg
      exact (Bool.or_eq_false_iff.1 hg).1
    refine rqUOp s T a (k + 0) _ k D _ k ha hs hT rfl hn' hle (by omega) (by omega) hF (fun _ => hg2) rfl rfl _ _ ?_
    have e1 : a + (k + if false = true then 1 else 0) = a + k := by rw [if_neg (by decide)]; omega
    rw [e1, show (if false = true then - decR D else decR D) = (decR D) by rw [if_neg (by decide)]] at nx
    exact nx
theorem rqK (s : List UInt8) (T : List Wt) (a : Nat) (ha : a < s.length) (hs : s.length ≤ 4000) (hT : T.length ≤ a) : RQK s T a (fun v L' => RunsTo Tryd.prog 15 (headOf Tryd.f15 0) (envAt Tryd.f15.ntmps ([(0, vS s), (5, vL 102 5 (T).length), (6, vN (a : Nat))])) (Sx.look ([] ++ (wtE 102 103 (T)))) 80 (v) (L') 9000) (tokR (s.drop a)) := by
  rw [tok_eq s a ha]
  have hn : ∀ {k : UInt8}, s.getD a 0 ≠ k → (s.getD a 0).toNat ≠ k.toNat := fun h => nat_ne h
  by_cases h1 : s.getD a 0 = 10 ∨ s.getD a 0 = 59
  · rw [if_pos h1]
    intro v L' nx
    exact rqN s T a 1 _ ha hs hT (h1.imp (fun e => by rw [e]; rfl) (fun e => by rw [e]; rfl)) rfl rfl (by omega) _ _ nx
  rw [if_neg h1]
  have n1 : (s.getD a 0).toNat ≠ 10 := hn (fun e => h1 (.inl e))
  have n2 : (s.getD a 0).toNat ≠ 59 := hn (fun e => h1 (.inr e))
  cases hl : ltrI ((s.getD a 0).toNat : Int) with
  | true =>
    rw [if_pos rfl, nameR]
    have hle := span_le' goI s (a := a) (by omega)
    by_cases h5 : 24 < spanR goI (s.drop a)
    · rw [if_pos h5]; exact rqIl s T a _ 0 ha hs hT n1 n2 hl rfl h5 hle
    · rw [if_neg h5]
      intro v L' nx
      refine rqI s T a _ _ ha hs hT n1 n2 hl rfl (by omega) rfl hle _ _ ?_
      unfold txt
      rw [take_drop]
      exact nx
  | false =>
    rw [if_neg (by decide)]
    have hnum : numberR (s.drop a) = if s.getD a 0 = 45 then numK true (s.drop (a + 1)) else numK false (s.drop a) := by rw [drop_at s ha]; rfl
    by_cases h2 : figI ((s.getD a 0).toNat : Int) = true ∨ s.getD a 0 = 45
    · rw [if_pos h2, hnum]
      by_cases h45 : s.getD a 0 = 45
      · rw [if_pos h45]; exact rqKm s T a ha hs hT n1 n2 hl (by rw [h45]; rfl)
      · rw [if_neg h45]; exact rqKp s T a ha hs hT n1 n2 hl (hn h45) (h2.resolve_right h45)
    · rw [if_neg h2]
      have hf : figI ((s.getD a 0).toNat : Int) = false := by
        cases hx : figI ((s.getD a 0).toNat : Int) with
        | true => exact absurd (.inl hx) h2
        | false => rfl
      have n3 : (s.getD a 0).toNat ≠ 45 := hn (fun e => h2 (.inr e))
      by_cases h3 : s.getD a 0 = 34
      · rw [if_pos h3]
        have h3 : (s.getD a 0).toNat = 34 := by rw [h3]; rfl
        cases hz : txR s a with
        | ok t n =>
          intro v L' nx
          have hnn := text_n _ _ _ _ hz
          rw [List.length_drop] at hnn
          have q := rqT s T a n _ t ha hs hT n1 n2 hl hf n3 h3 (by rw [hz]; rfl) (by rw [hz]; rfl) (by rw [hz]; rfl) rfl (by omega) v L'
          have e := text_ok _ _ _ _ hz
          rw [← e] at q
          exact q nx
        | err e =>
          have he : e ≠ 0 := by have := text_e _ _ _ _ hz (fun q => esc_e); omega
          exact rqTe s T a e 0 ha hs hT n1 n2 hl hf n3 h3 (by rw [hz]; rfl) (by rw [hz]; rfl) he
      · rw [if_neg h3]
        have n4 : (s.getD a 0).toNat ≠ 34 := hn h3
        rw [drop_at s ha, sign_eq, head_drop]
        have h61 : s.getD (a + 1) 0 = 61 → a + 1 < s.length := fun h => by
          refine Nat.lt_of_not_le fun q => ?_
          rw [List.getD_eq_getElem?_getD, List.getElem?_eq_none q] at h
          exact absurd h (by decide)
        by_cases g1 : s.getD (a + 1) 0 = 61 ∧ (s.getD a 0 = 61 ∨ s.getD a 0 = 33 ∨ s.getD a 0 = 60 ∨ s.getD a 0 = 62)
        · rw [if_pos g1]
          obtain ⟨g2, g3⟩ := g1
          have hlt := h61 g2
          rcases g3 with e | e | e | e <;> rw [e] <;> intro v L' nx
          · exact rsEE s T a 2 _ ha hs hT n1 n2 hl hf n3 n4 hlt e g2 rfl rfl (by omega) _ _ nx
          · exact rsNE s T a 2 _ ha hs hT n1 n2 hl hf n3 n4 hlt e g2 rfl rfl (by omega) _ _ nx
          · exact rsLE s T a 2 _ ha hs hT n1 n2 hl hf n3 n4 hlt e g2 rfl rfl (by omega) _ _ nx
          · exact rsGE s T a 2 _ ha hs hT n1 n2 hl hf n3 n4 hlt e g2 rfl rfl (by omega) _ _ nx
        rw [if_neg g1]
        by_cases g2 : s.getD a 0 = 123 ∨ s.getD a 0 = 125 ∨ s.getD a 0 = 60 ∨ s.getD a 0 = 62
        · rw [if_pos g2]
          rcases g2 with e | e | e | e <;> rw [e] <;> intro v L' nx
          · exact rsO s T a 1 _ ha hs hT n1 n2 hl hf n3 n4 e rfl rfl (by omega) _ _ nx
          · exact rsC s T a 1 _ ha hs hT n1 n2 hl hf n3 n4 e rfl rfl (by omega) _ _ nx
          · exact rsL s T a 1 _ ha hs hT n1 n2 hl hf n3 n4 e (fun _ q => g1 ⟨q, .inr (.inr (.inl e))⟩) rfl rfl (by omega) _ _ nx
          · exact rsG s T a 1 _ ha hs hT n1 n2 hl hf n3 n4 e (fun _ q => g1 ⟨q, .inr (.inr (.inr e))⟩) rfl rfl (by omega) _ _ nx
        rw [if_neg g2]
        exact rsF s T a 0 0 ha hs hT n1 n2 hl hf n3 n4 (fun e => g2 (.inl e)) (fun e => g2 (.inr (.inl e))) (fun e => g2 (.inr (.inr (.inl e)))) (fun e => g2 (.inr (.inr (.inr e)))) (fun _ q => g1 ⟨q.2, q.1.elim .inl (fun e => .inr (.inl e))⟩)
theorem rqLoop (s : List UInt8) (hs : s.length ≤ 4000) : ∀ (f a0 a : Nat) (T : List Wt), a = a0 + gapR false (s.drop a0) → a0 ≤ s.length → s.length - a0 < f → T.length ≤ a0 → RQR T (fun v L' => RunsTo Tryd.prog 15 (headOf Tryd.f15 0) (envAt Tryd.f15.ntmps ([(0, vS s), (5, vL 102 5 (T).length), (6, vN (a : Nat))])) (Sx.look ([] ++ (wtE 102 103 (T)))) 80 (v) (L') 9000) (splitR f a0 (s.drop a0)) := by
  intro f
  induction f with
  | zero => intro a0 a T _ _ h; omega
  | succ f ih =>
    intro a0 a T ha ha0 hf hT
    have hg := gap_le false (s.drop a0)
    rw [List.length_drop] at hg
    have hdd : (s.drop a0).drop (gapR false (s.drop a0)) = s.drop a := by rw [List.drop_drop, ha]
    rw [splitR, hdd, ← ha]
    by_cases hae : s.length ≤ a
    · rw [List.drop_eq_nil_of_le hae]
      have q := rqE s T a 0 0 (by omega)
      show RunsTo Tryd.prog 15 (headOf Tryd.f15 0) (envAt Tryd.f15.ntmps ([(0, vS s), (5, vL 102 5 (T).length), (6, vN (a : Nat))])) (Sx.look ([] ++ (wtE 102 103 (T)))) 80 (.tup [(false, .vl 102 (fun _ => 0) 5 [] (fun _ => (T ++ ([] : List Wt)).length)), (false, .vi .i64 fun _ => 0), (false, .vi .i64 fun _ => 0)]) (Sx.look (wtE 102 103 (T ++ ([] : List Wt)))) 9000
      rw [List.append_nil]
      exact q
    have hlt : a < s.length := by omega
    have hd := drop_at s hlt
    rw [hd]
    simp only
    rw [← hd]
    have hK := rqK s T a hlt hs (by omega)
    cases hz : tokR (s.drop a) with
    | err e =>
      rw [hz] at hK
      simp only
      have he := tok_e hz
      obtain ⟨e', rfl⟩ : ∃ e', e = e' + 1 := ⟨e - 1, by omega⟩
      exact hK
    | ok t n =>
      rw [hz] at hK
      simp only
      have hn := tok_n _ hz
      rw [List.length_drop] at hn
      have q := ih (a + n) _ (T ++ [atW t a]) rfl (by omega) (by omega) (by simp; omega)
      rw [List.drop_drop]
      have q := RQR.step hK q
      cases hr : splitR f (a + n) (s.drop (a + n)) with
      | mk T' pe =>
        obtain ⟨p, e⟩ := pe
        rw [hr] at q
        cases e with
        | zero =>
          simp only
          show RunsTo Tryd.prog 15 (headOf Tryd.f15 0) (envAt Tryd.f15.ntmps ([(0, vS s), (5, vL 102 5 (T).length), (6, vN (a : Nat))])) (Sx.look ([] ++ (wtE 102 103 (T)))) 80 (.tup [(false, .vl 102 (fun _ => 0) 5 [] (fun _ => (T ++ (⟨t.kind, t.text, t.num, t.ps, a⟩ : Wt) :: T').length)), (false, .vi .i64 fun _ => 0), (false, .vi .i64 fun _ => 0)]) (Sx.look (wtE 102 103 (T ++ (⟨t.kind, t.text, t.num, t.ps, a⟩ : Wt) :: T'))) 9000
          have e1 : T ++ (⟨t.kind, t.text, t.num, t.ps, a⟩ : Wt) :: T' = T ++ [atW t a] ++ T' := by simp [atW]
          rw [e1]
          exact q
        | succ e => exact q
theorem rqT' (s : List UInt8) : RQR [] (fun v L' => RunsTo Tryd.prog 15 [.code (bodyOf Tryd.f15)] (envOf [vS s] Tryd.f15.ntmps) (Sx.look ([] ++ ([]))) 80 (v) (L') 9000) (splitS s) := by
  unfold splitS
  by_cases h : 4000 < s.length
  · rw [if_pos h]; exact rqL s h
  · rw [if_neg h]
    have q := rqLoop s (by omega) (s.length + 1) 0 _ [] rfl (by omega) (by omega) (by simp)
    rw [List.drop_zero, Nat.zero_add] at q
    exact RQR.step (rq0 s _ (by omega) rfl) q
theorem rqOkT (s : List UInt8) (h : (splitS s).2.2 = 0) : RunsTo Tryd.prog 15 [.code (bodyOf Tryd.f15)] (envOf [vS s] Tryd.f15.ntmps) (Sx.look ([] ++ ([]))) 80 (.tup [(false, .vl 102 (fun _ => 0) 5 [] (fun _ => ((splitS s).1).length)), (false, .vi .i64 fun _ => 0), (false, .vi .i64 fun _ => 0)]) (Sx.look (wtE 102 103 (splitS s).1)) 9000 := by
  have q := rqT' s
  cases hz : splitS s with
  | mk T pe =>
    obtain ⟨p, e⟩ := pe
    rw [hz] at q h
    simp only at h
    subst h
    exact q
theorem rqErT (s : List UInt8) (h : (splitS s).2.2 ≠ 0) : RunsTo Tryd.prog 15 [.code (bodyOf Tryd.f15)] (envOf [vS s] Tryd.f15.ntmps) (Sx.look ([] ++ ([]))) 80 (.tup [(false, .vl0), (false, .vi .i64 fun _ => (((splitS s).2.1 : Nat) : Int)), (false, .vi .i64 fun _ => (((splitS s).2.2 : Nat) : Int))]) (Sx.look []) 9000 := by
  have q := rqT' s
  cases hz : splitS s with
  | mk T pe =>
    obtain ⟨p, e⟩ := pe
    rw [hz] at q h
    simp only at h
    cases e with
    | zero => exact absurd rfl h
    | succ e => exact q
def rqOkP : PC := { args := [.v (.vs 0)], heap := [], gs := [], G := 23, tp := 213, n := 80, n' := 9000, cond := fun e => decide ((splitS (eS e 0 [])).2.2 = 0), v := fun e => .tup [(false, .vl 102 (fun _ => 0) 5 [] (fun _ => ((splitS (eS e 0 [])).1).length)), (false, .vi .i64 fun _ => 0), (false, .vi .i64 fun _ => 0)], post := fun e => wtE 102 103 (splitS (eS e 0 [])).1 }
theorem rqOkP_pc : PC.Runs Tryd.prog 15 Tryd.f15 (bodyOf Tryd.f15) rqOkP := ⟨Tryd.func15, by kernel_rfl, (fun g hg => by first | (cases hg; done) | (revert g; show ∀ g ∈ ([] : List Nat), g < 23; decide)), fun e H hc => by
  have hc : (decide ((splitS (eS e 0 [])).2.2 = 0)) = true := hc
  try simp only [Bool.and_eq_true, decide_eq_true_eq, Nat.beq_eq] at hc
  exact rqOkT (eS e 0 []) hc⟩
def rqErP : PC := { args := [.v (.vs 0)], heap := [], gs := [], G := 23, tp := 213, n := 80, n' := 9000, cond := fun e => decide ((splitS (eS e 0 [])).2.2 ≠ 0), v := fun e => .tup [(false, .vl0), (false, .vi .i64 fun _ => (((splitS (eS e 0 [])).2.1 : Nat) : Int)), (false, .vi .i64 fun _ => (((splitS (eS e 0 [])).2.2 : Nat) : Int))], post := fun e => [] }
theorem rqErP_pc : PC.Runs Tryd.prog 15 Tryd.f15 (bodyOf Tryd.f15) rqErP := ⟨Tryd.func15, by kernel_rfl, (fun g hg => by first | (cases hg; done) | (revert g; show ∀ g ∈ ([] : List Nat), g < 23; decide)), fun e H hc => by
  have hc : (decide ((splitS (eS e 0 [])).2.2 ≠ 0)) = true := hc
  try simp only [Bool.and_eq_true, decide_eq_true_eq, Nat.beq_eq] at hc
  exact rqErT (eS e 0 []) hc⟩
end Go.Proofs.YtaleenklamognaaDoor

set_option linter.unusedSimpArgs false
set_option linter.unusedVariables false
set_option maxRecDepth 100000
namespace Go.Proofs.YtaleenklamognaaDoor
open Go.Sx

open WordR
def mkP (v l : List UInt8) : Pc := ⟨v, l⟩
def eqPs (n : Nat) (V L V' L' : Ix → List UInt8) : Bool := (List.range n).all fun j => decide (V [j] = V' [j] ∧ L [j] = L' [j])

variable (i n : Nat)
abbrev qv1 := 0 + (i : Int).toNat
abbrev qv2 := (decide (0 ≤ (i : Int) ∧ (i : Int) < (n : Int)), true)
set_option maxHeartbeats 4000000 in
theorem pc0 (n M : Nat) (V L : Ix → List UInt8)  (v : SV) (L' : HF) (next : (RunsTo Tryd.prog 21 (headOf Tryd.f21 0) (envAt Tryd.f21.ntmps ([(3, vL 101 2 (([] : List Pc)).length), (7, vL 61 2 n), (8, vN n), (9, vN (0 : Nat))])) (Sx.look (prX 61 M V L ++ (prE 101 (([] : List Pc))))) 80 (v) (L') 160)) :
    (RunsTo Tryd.prog 21 [.code (bodyOf Tryd.f21)] (envOf [vL 61 2 n] Tryd.f21.ntmps) (Sx.look (prX 61 M V L ++ ([]))) 80 (v) (L') 160) := by
  refine rMo baseO 300 (behind Tryd.f21 0) 900 80 (hI 0 0) ([((101 : Nat), Rn.to (80 : Nat))]) [] (((0 = 0 ∧ 0 = 0) ∧ (0 = 0 ∧ n = n) ∧ (n : Int) = (n : Int) ∧ (↑(0 : Nat) : Int) = (0 : Int)) ∧ 0 = 0 ∧ (∀ (i : Nat), i < (0 : Nat) → prV [] [i] = []) ∧ ∀ (i : Nat), i < (0 : Nat) → prL [] [i] = []) next okn ?_
  all_goals clear next; exact sc6

theorem pcs_succ (V L : Ix → List UInt8) (i : Nat) : pcsOf (i + 1) V L = pcsOf i V L ++ [mkP (V [i]) (L [i])] := by
  simp [pcsOf, List.range_succ, mkP]

set_option maxHeartbeats 4000000 in
theorem pc1 (n M : Nat) (V L : Ix → List UInt8) (P : List Pc) (i : Nat) (hi : i < n) (hM : n ≤ M) (hn : n ≤ 1000) (hPl : P.length = i)  (v : SV) (L' : HF) (next : (RunsTo Tryd.prog 21 (headOf Tryd.f21 0) (envAt Tryd.f21.ntmps ([(3, vL 101 2 (P ++ [mkP (V [i]) (L [i])]).length), (7, vL 61 2 n), (8, vN n), (9, vN (i + 1 : Nat))])) (Sx.look (prX 61 M V L ++ (prE 101 (P ++ [mkP (V [i]) (L [i])])))) 80 (v) (L') 160)) :
    (RunsTo Tryd.prog 21 (headOf Tryd.f21 0) (envAt Tryd.f21.ntmps ([(3, vL 101 2 (P).length), (7, vL 61 2 n), (8, vN n), (9, vN (i : Nat))])) (Sx.look (prX 61 M V L ++ (prE 101 (P)))) 80 (v) (L') 160) := by
  have hw : IntKind.i64.wrap ((i : Int) + 1) = ((i + 1 : Nat) : Int) := by rw [wr64 (by omega)]; rfl
  have hap := pr_app P P.length (prV P) (prL P) (fun js => V [i]) (fun js => L [i]) (pcsOf_pr P).symm (mkP (V [i]) (L [i])) rfl rfl
  have E' := hw
  refine rMo baseO 300 (behind Tryd.f21 0) 900 110 (hI 7 5973) ([((101 : Nat), Rn.to (112 : Nat))]) [(decide ((i : Int) < (n : Int)), true), (qv2 i n), ((qv1 i).blt M, true), ((qv1 i).blt M, true), ((0 + P.length).ble P.length, true), (decide (((2 : Nat) * (P.length + (1 : Nat)) + (192 : Nat)) * (32 : Nat) ≤ (281474976710656 : Nat)), true)] (((0 = 0 ∧ (P ++ [mkP (V [i]) (L [i])]).length = P.length + (1 : Nat)) ∧ (0 = 0 ∧ n = n) ∧ (n : Int) = (n : Int) ∧ (↑(i + (1 : Nat)) : Int) = IntKind.i64.wrap ((i : Int) + 1)) ∧ (P ++ [mkP (V [i]) (L [i])]).length = P.length + (1 : Nat) ∧ (∀ (i_1 : Nat), i_1 < (P ++ [mkP (V [i]) (L [i])]).length → prV (P ++ [mkP (V [i]) (L [i])]) [i_1] = appF P.length (0 : Nat) (prV P) (fun js => V ((qv1 i) :: List.tail (subIx (0 : Nat) js))) [i_1]) ∧ ∀ (i_1 : Nat), i_1 < (P ++ [mkP (V [i]) (L [i])]).length → prL (P ++ [mkP (V [i]) (L [i])]) [i_1] = appF P.length (0 : Nat) (prL P) (fun js => L ((qv1 i) :: List.tail (subIx (0 : Nat) js))) [i_1]) next (oc6 ?_ ?_ ?_ ?_ ?_ ?_ okn) ?_
  all_goals clear next; try dsimp only [qv2, qv1]
  all_goals exact sc50

set_option maxHeartbeats 4000000 in
theorem pc2 (n M : Nat) (V L : Ix → List UInt8) (P : List Pc) (i : Nat) (hi : i = n)  :
    (RunsTo Tryd.prog 21 (headOf Tryd.f21 0) (envAt Tryd.f21.ntmps ([(3, vL 101 2 (P).length), (7, vL 61 2 n), (8, vN n), (9, vN (i : Nat))])) (Sx.look (prX 61 M V L ++ (prE 101 (P)))) 80 (vL 141 2 P.length) (Sx.look (prE 141 P)) 160) := by
  refine rEn baseO 300 (99) 900 110 (hI 1 0) ([((141 : Nat), Rn.to (101 : Nat))]) [(decide ((i : Int) < (n : Int)), false)] ((0 = 0 ∧ P.length = P.length) ∧ P.length = P.length ∧ (∀ (i : Nat), i < P.length → prV P [i] = prV P [i]) ∧ ∀ (i : Nat), i < P.length → prL P [i] = prL P [i]) (oc1 ?_ okn) ?_
  all_goals exact sc6

theorem pcT (n M : Nat) (V L : Ix → List UInt8) (hM : n ≤ M) (hn : n ≤ 1000) : RunsTo Tryd.prog 21 [.code (bodyOf Tryd.f21)] (envOf [vL 61 2 n] Tryd.f21.ntmps) (Sx.look (prX 61 M V L ++ ([]))) 80 (vL 141 2 (pcsOf n V L).length) (Sx.look (prE 141 (pcsOf n V L))) 160 := by
  refine pc0 n M V L _ _ ?_
  suffices q : ∀ (k i : Nat), i + k = n → RunsTo Tryd.prog 21 (headOf Tryd.f21 0) (envAt Tryd.f21.ntmps ([(3, vL 101 2 (pcsOf i V L).length), (7, vL 61 2 n), (8, vN n), (9, vN (i : Nat))])) (Sx.look (prX 61 M V L ++ (prE 101 (pcsOf i V L)))) 80 (vL 141 2 (pcsOf n V L).length) (Sx.look (prE 141 (pcsOf n V L))) 160 from q n 0 (by omega)
  intro k
  induction k with
  | zero => intro i hi; rw [show i = n by omega]; exact pc2 n M V L _ n rfl
  | succ k ih =>
    intro i hi
    have q := ih (i + 1) (by omega)
    rw [pcs_succ] at q
    exact pc1 n M V L _ i (by omega) hM hn (pcsOf_len _ _ _) _ _ q
def pcP : PC := { args := [.v (.vl 61 2 0)], heap := [⟨61, false, 2, .ta 4 (.tc (.vs 2) (.tc (.vs 3) .t0))⟩], gs := [], G := 23, tp := 213, n := 80, n' := 160, cond := fun e => decide (eN e 0 ≤ eN e 4) && decide (eN e 0 ≤ 1000), v := fun e => vL 141 2 (pcsOf (eN e 0) (eS e 2) (eS e 3)).length, post := fun e => prE 141 (pcsOf (eN e 0) (eS e 2) (eS e 3)) }
theorem pcP_pc : PC.Runs Tryd.prog 21 Tryd.f21 (bodyOf Tryd.f21) pcP := ⟨Tryd.func21, by kernel_rfl, (fun g hg => by first | (cases hg; done) | (revert g; show ∀ g ∈ ([] : List Nat), g < 23; decide)), fun e H hc => by
  have hc : (decide (eN e 0 ≤ eN e 4) && decide (eN e 0 ≤ 1000)) = true := hc
  try simp only [Bool.and_eq_true, decide_eq_true_eq, Nat.beq_eq] at hc
  exact pcT (eN e 0) (eN e 4) (eS e 2) (eS e 3) hc.1 hc.2⟩
def pcPm : PC := { args := [.v (.vm 61 2 0)], heap := [⟨61, false, 2, .ta 4 (.tc (.vs 2) (.tc (.vs 3) .t0))⟩], gs := [], G := 23, tp := 213, n := 80, n' := 160, cond := fun e => decide (eN e 0 ≤ eN e 4) && decide (eN e 0 ≤ 1000), v := fun e => vL 141 2 (pcsOf (eN e 0) (eS e 2) (eS e 3)).length, post := fun e => prE 141 (pcsOf (eN e 0) (eS e 2) (eS e 3)) }
theorem pcPm_pc : PC.Runs Tryd.prog 21 Tryd.f21 (bodyOf Tryd.f21) pcPm := ⟨Tryd.func21, by kernel_rfl, (fun g hg => by first | (cases hg; done) | (revert g; show ∀ g ∈ ([] : List Nat), g < 23; decide)), fun e H hc => by
  have hc : (decide (eN e 0 ≤ eN e 4) && decide (eN e 0 ≤ 1000)) = true := hc
  try simp only [Bool.and_eq_true, decide_eq_true_eq, Nat.beq_eq] at hc
  exact pcT (eN e 0) (eN e 4) (eS e 2) (eS e 3) hc.1 hc.2⟩

set_option maxHeartbeats 4000000 in
theorem sf0 (k : Int) (x : List UInt8) (m p q : Int) (n M M2 : Nat) (V L V2 L2 : Ix → List UInt8) (hM : n ≤ M) (hM2 : n ≤ M2) (hn : n ≤ 1000)  (v : SV) (L' : HF) (next : (RunsTo Tryd.prog 18 (headOf Tryd.f18 0) (envAt Tryd.f18.ntmps ([(3, vP 121), (36, vL 61 2 n), (37, vN n), (38, vN (0 : Nat))])) (Sx.look ((prX 61 M V L ++ prX 62 M2 V2 L2) ++ ([⟨121, true, none, 5, (.tc (.vi .i64 fun _ => k) (.tc (.vs fun _ => x) (.tc (.vi .i64 fun _ => m) (.tc (.vl 62 (fun _ => 0) 2 [] (fun _ => n)) (.tc (.vi .i64 fun _ => q) .t0)))))⟩]))) 80 (v) (L') 160)) :
    (RunsTo Tryd.prog 18 [.code (bodyOf Tryd.f18)] (envOf [.agg (.tc (.vi .i64 fun _ => k) (.tc (.vs fun _ => x) (.tc (.vi .i64 fun _ => m) (.tc (.vl 61 (fun _ => 0) 2 [] (fun _ => n)) (.tc (.vi .i64 fun _ => p) .t0))))), .agg (.tc (.vi .i64 fun _ => k) (.tc (.vs fun _ => x) (.tc (.vi .i64 fun _ => m) (.tc (.vl 62 (fun _ => 0) 2 [] (fun _ => n)) (.tc (.vi .i64 fun _ => q) .t0)))))] Tryd.f18.ntmps) (Sx.look ((prX 61 M V L ++ prX 62 M2 V2 L2) ++ ([]))) 80 (v) (L') 160) := by
  refine rMo baseO 300 (behind Tryd.f18 0) 900 80 (hI 4 0) ([((121 : Nat), Rn.to (81 : Nat))]) [(k != k, false), (!x == x, false), (m != m, false), ((n : Int) != (n : Int), false)] ((0 = 0 ∧ (0 = 0 ∧ n = n) ∧ (n : Int) = (n : Int) ∧ (↑(0 : Nat) : Int) = (0 : Int)) ∧ k = k ∧ x = x ∧ m = m ∧ (0 = 0 ∧ n = n) ∧ q = q) next (oc4 ?_ ?_ ?_ ?_ okn) ?_
  all_goals clear next; exact sc6

set_option maxHeartbeats 4000000 in
theorem sf1 (k : Int) (x : List UInt8) (m p q : Int) (n M M2 : Nat) (V L V2 L2 : Ix → List UInt8) (i : Nat) (hi : i < n) (hM : n ≤ M) (hM2 : n ≤ M2) (hn : n ≤ 1000) (h1 : V [i] = V2 [i]) (h2 : L [i] = L2 [i])  (v : SV) (L' : HF) (next : (RunsTo Tryd.prog 18 (headOf Tryd.f18 0) (envAt Tryd.f18.ntmps ([(3, vP 121), (36, vL 61 2 n), (37, vN n), (38, vN (i + 1 : Nat))])) (Sx.look ((prX 61 M V L ++ prX 62 M2 V2 L2) ++ ([⟨121, true, none, 5, (.tc (.vi .i64 fun _ => k) (.tc (.vs fun _ => x) (.tc (.vi .i64 fun _ => m) (.tc (.vl 62 (fun _ => 0) 2 [] (fun _ => n)) (.tc (.vi .i64 fun _ => q) .t0)))))⟩]))) 80 (v) (L') 160)) :
    (RunsTo Tryd.prog 18 (headOf Tryd.f18 0) (envAt Tryd.f18.ntmps ([(3, vP 121), (36, vL 61 2 n), (37, vN n), (38, vN (i : Nat))])) (Sx.look ((prX 61 M V L ++ prX 62 M2 V2 L2) ++ ([⟨121, true, none, 5, (.tc (.vi .i64 fun _ => k) (.tc (.vs fun _ => x) (.tc (.vi .i64 fun _ => m) (.tc (.vl 62 (fun _ => 0) 2 [] (fun _ => n)) (.tc (.vi .i64 fun _ => q) .t0)))))⟩]))) 80 (v) (L') 160) := by
  have hw : IntKind.i64.wrap ((i : Int) + 1) = ((i + 1 : Nat) : Int) := by rw [wr64 (by omega)]; rfl
  have E' := (⟨hw, h1, h2⟩ : _ ∧ _ ∧ _)
  refine rMo baseO 300 (behind Tryd.f18 0) 900 130 (hI 8 5461) ([]) [(decide ((i : Int) < (n : Int)), true), (qv2 i n), ((qv1 i).blt M, true), ((qv1 i).blt M, true), (qv2 i n), ((qv1 i).blt M2, true), ((qv1 i).blt M2, true), (!(V [0 + (i : Int).toNat] == V2 [0 + (i : Int).toNat] && (L [0 + (i : Int).toNat] == L2 [0 + (i : Int).toNat] && true)), false)] ((0 = 0 ∧ (0 = 0 ∧ n = n) ∧ (n : Int) = (n : Int) ∧ (↑(i + (1 : Nat)) : Int) = IntKind.i64.wrap ((i : Int) + 1)) ∧ k = k ∧ x = x ∧ m = m ∧ (0 = 0 ∧ n = n) ∧ q = q) next (oc8 ?_ ?_ ?_ ?_ ?_ ?_ ?_ ?_ okn) ?_
  all_goals clear next; try dsimp only [qv2, qv1]
  all_goals exact sc7

set_option maxHeartbeats 4000000 in
theorem sf2 (k : Int) (x : List UInt8) (m p q : Int) (n M M2 : Nat) (V L V2 L2 : Ix → List UInt8) (i : Nat) (hi : i = n)  :
    (RunsTo Tryd.prog 18 (headOf Tryd.f18 0) (envAt Tryd.f18.ntmps ([(3, vP 121), (36, vL 61 2 n), (37, vN n), (38, vN (i : Nat))])) (Sx.look ((prX 61 M V L ++ prX 62 M2 V2 L2) ++ ([⟨121, true, none, 5, (.tc (.vi .i64 fun _ => k) (.tc (.vs fun _ => x) (.tc (.vi .i64 fun _ => m) (.tc (.vl 62 (fun _ => 0) 2 [] (fun _ => n)) (.tc (.vi .i64 fun _ => q) .t0)))))⟩]))) 80 (YES) (Sx.look ([])) 160) := by
  refine rEn baseO 300 (99) 900 130 (hI 1 0) ([]) [(decide ((i : Int) < (n : Int)), false)] (true = true ∧ True) (oc1 ?_ okn) ?_
  all_goals exact sc6

theorem sfT (k : Int) (x : List UInt8) (m p q : Int) (n M M2 : Nat) (V L V2 L2 : Ix → List UInt8) (hM : n ≤ M) (hM2 : n ≤ M2) (hn : n ≤ 1000) (h : ∀ i, i < n → V [i] = V2 [i] ∧ L [i] = L2 [i]) : RunsTo Tryd.prog 18 [.code (bodyOf Tryd.f18)] (envOf [.agg (.tc (.vi .i64 fun _ => k) (.tc (.vs fun _ => x) (.tc (.vi .i64 fun _ => m) (.tc (.vl 61 (fun _ => 0) 2 [] (fun _ => n)) (.tc (.vi .i64 fun _ => p) .t0))))), .agg (.tc (.vi .i64 fun _ => k) (.tc (.vs fun _ => x) (.tc (.vi .i64 fun _ => m) (.tc (.vl 62 (fun _ => 0) 2 [] (fun _ => n)) (.tc (.vi .i64 fun _ => q) .t0)))))] Tryd.f18.ntmps) (Sx.look ((prX 61 M V L ++ prX 62 M2 V2 L2) ++ ([]))) 80 (YES) (Sx.look []) 160 := by
  refine sf0 k x m p q n M M2 V L V2 L2 hM hM2 hn _ _ ?_
  suffices z : ∀ (j i : Nat), i + j = n → RunsTo Tryd.prog 18 (headOf Tryd.f18 0) (envAt Tryd.f18.ntmps ([(3, vP 121), (36, vL 61 2 n), (37, vN n), (38, vN (i : Nat))])) (Sx.look ((prX 61 M V L ++ prX 62 M2 V2 L2) ++ ([⟨121, true, none, 5, (.tc (.vi .i64 fun _ => k) (.tc (.vs fun _ => x) (.tc (.vi .i64 fun _ => m) (.tc (.vl 62 (fun _ => 0) 2 [] (fun _ => n)) (.tc (.vi .i64 fun _ => q) .t0)))))⟩]))) 80 (YES) (Sx.look []) 160 from z n 0 (by omega)
  intro j
  induction j with
  | zero => intro i hi; exact sf2 k x m p q n M M2 V L V2 L2 i (by omega)
  | succ j ih =>
    intro i hi
    have hv := h i (by omega)
    exact sf1 k x m p q n M M2 V L V2 L2 i (by omega) hM hM2 hn hv.1 hv.2 _ _ (ih (i + 1) (by omega))
theorem sfT2 (k k' : Int) (x x' : List UInt8) (m m' p q : Int) (n n' M M2 : Nat) (V L V2 L2 : Ix → List UInt8) (e1 : k = k') (e2 : x = x') (e3 : m = m') (e4 : n = n') (hM : n ≤ M) (hM2 : n ≤ M2) (hn : n ≤ 1000) (h : eqPs n V L V2 L2 = true) : RunsTo Tryd.prog 18 [.code (bodyOf Tryd.f18)] (envOf [.agg (.tc (.vi .i64 fun _ => k) (.tc (.vs fun _ => x) (.tc (.vi .i64 fun _ => m) (.tc (.vl 61 (fun _ => 0) 2 [] (fun _ => n)) (.tc (.vi .i64 fun _ => p) .t0))))), .agg (.tc (.vi .i64 fun _ => k') (.tc (.vs fun _ => x') (.tc (.vi .i64 fun _ => m') (.tc (.vl 62 (fun _ => 0) 2 [] (fun _ => n')) (.tc (.vi .i64 fun _ => q) .t0)))))] Tryd.f18.ntmps) (Sx.look ((prX 61 M V L ++ prX 62 M2 V2 L2) ++ ([]))) 80 (YES) (Sx.look []) 160 := by
  subst e1 e2 e3 e4
  exact sfT k x m p q n M M2 V L V2 L2 hM hM2 hn (fun i hi => of_decide_eq_true (List.all_eq_true.1 h i (List.mem_range.2 hi)))
def sfP : PC := { args := [.agg (.tc (.vi .i64 0) (.tc (.vs 1) (.tc (.vi .i64 2) (.tc (.vl 61 2 3) (.tc (.vi .i64 4) .t0))))), .agg (.tc (.vi .i64 5) (.tc (.vs 6) (.tc (.vi .i64 7) (.tc (.vm 62 2 8) (.tc (.vi .i64 9) .t0)))))], heap := [⟨61, false, 2, .ta 10 (.tc (.vs 11) (.tc (.vs 12) .t0))⟩, ⟨62, false, 2, .ta 13 (.tc (.vs 14) (.tc (.vs 15) .t0))⟩], gs := [], G := 23, tp := 213, n := 80, n' := 160, cond := fun e => decide (eI e 0 [] = eI e 5 []) && (decide (eS e 1 [] = eS e 6 []) && (decide (eI e 2 [] = eI e 7 []) && (decide (eN e 3 = eN e 8) && (decide (eN e 3 ≤ eN e 10) && (decide (eN e 3 ≤ eN e 13) && (decide (eN e 3 ≤ 1000) && eqPs (eN e 3) (eS e 11) (eS e 12) (eS e 14) (eS e 15))))))), v := fun e => YES, post := fun e => [] }
theorem sfP_pc : PC.Runs Tryd.prog 18 Tryd.f18 (bodyOf Tryd.f18) sfP := ⟨Tryd.func18, by kernel_rfl, (fun g hg => by first | (cases hg; done) | (revert g; show ∀ g ∈ ([] : List Nat), g < 23; decide)), fun e H hc => by
  have hc : (decide (eI e 0 [] = eI e 5 []) && (decide (eS e 1 [] = eS e 6 []) && (decide (eI e 2 [] = eI e 7 []) && (decide (eN e 3 = eN e 8) && (decide (eN e 3 ≤ eN e 10) && (decide (eN e 3 ≤ eN e 13) && (decide (eN e 3 ≤ 1000) && eqPs (eN e 3) (eS e 11) (eS e 12) (eS e 14) (eS e 15)))))))) = true := hc
  try simp only [Bool.and_eq_true, decide_eq_true_eq, Nat.beq_eq] at hc
  exact sfT2 (eI e 0 []) (eI e 5 []) (eS e 1 []) (eS e 6 []) (eI e 2 []) (eI e 7 []) (eI e 4 []) (eI e 9 []) (eN e 3) (eN e 8) (eN e 10) (eN e 13) (eS e 11) (eS e 12) (eS e 14) (eS e 15) hc.1 hc.2.1 hc.2.2.1 hc.2.2.2.1 hc.2.2.2.2.1 hc.2.2.2.2.2.1 hc.2.2.2.2.2.2.1 hc.2.2.2.2.2.2.2⟩
def sumsAV : List (FuncId × Summ) := [(14, spOkP.summ 46)]
theorem baseAV : Base0 Tryd.prog sumsAV := (baseO.cons Tryd.func14 (by kernel_rfl) (PC.summ_ok spOkP_pc gtopG))

set_option maxHeartbeats 4000000 in
theorem wavI (t0 t1 t2 : List UInt8)  :
    (RunsTo Tryd.prog 13 [.code (bodyOf Tryd.f13)] (envOf [] Tryd.f13.ntmps) (Sx.look (sentEnts 23 213 [(5, t0), (6, t1), (0, t2)] ++ ([]))) 80 (YES) (Sx.look ([])) 12000) := by
  refine rEn baseAV 400 (99) 900 80 (hI 28 72057594037927935) ([]) [] (true = true ∧ True) okn ?_
  all_goals exact sc51

def wavP : PC := { args := [], heap := [], gs := [5, 6, 0], G := 23, tp := 213, n := 80, n' := 12000, cond := fun e => true, v := fun e => YES, post := fun e => [] }
theorem wavP_pc : PC.Runs Tryd.prog 13 Tryd.f13 (bodyOf Tryd.f13) wavP := ⟨Tryd.func13, by kernel_rfl, (fun g hg => by first | (cases hg; done) | (revert g; show ∀ g ∈ ([5, 6, 0] : List Nat), g < 23; decide)), fun e H hc => by
  have hc : (true) = true := hc
  try simp only [Bool.and_eq_true, decide_eq_true_eq, Nat.beq_eq] at hc
  exact wavI (textAt H 28) (textAt H 29) (textAt H 23)⟩
end Go.Proofs.YtaleenklamognaaDoor

set_option linter.unusedSimpArgs false
set_option linter.unusedVariables false
set_option maxRecDepth 100000
namespace Go.Proofs.YtaleenklamognaaDoor
open Go.Sx

open WordR
def wsS (t0 t1 t2 t3 t4 t5 t6 t7 t8 t9 t10 t11 t12 t13 t14 t15 : List UInt8) : List Ent := sentEnts 23 213 [(4, t0), (3, t1), (5, t2), (0, t3), (6, t4), (2, t5), (7, t6), (8, t7), (9, t8), (10, t9), (11, t10), (12, t11), (13, t12), (14, t13), (15, t14), (1, t15)]
def sumsWOk : List (FuncId × Summ) := [(13, wavP.summ 46), (16, numS), (21, pcPm.summ 46), (18, sfP.summ 46), (14, spOkP.summ 46), (15, rqOkP.summ 46)]
theorem baseWOk : Base0 Tryd.prog sumsWOk := ((((((baseO.cons Tryd.func15 (by kernel_rfl) (PC.summ_ok rqOkP_pc gtopG)).cons Tryd.func14 (by kernel_rfl) (PC.summ_ok spOkP_pc gtopG)).cons Tryd.func18 (by kernel_rfl) (PC.summ_ok sfP_pc gtopG)).cons Tryd.func21 (by kernel_rfl) (PC.summ_ok pcPm_pc gtopG)).cons Tryd.func16 (by kernel_rfl) numS_ok).cons Tryd.func13 (by kernel_rfl) (PC.summ_ok wavP_pc gtopG))
def sumsWSh : List (FuncId × Summ) := [(13, wavP.summ 46), (16, numS), (21, pcPm.summ 46), (18, sfP.summ 46), (14, spShP.summ 46), (15, rqErP.summ 46)]
theorem baseWSh : Base0 Tryd.prog sumsWSh := ((((((baseO.cons Tryd.func15 (by kernel_rfl) (PC.summ_ok rqErP_pc gtopG)).cons Tryd.func14 (by kernel_rfl) (PC.summ_ok spShP_pc gtopG)).cons Tryd.func18 (by kernel_rfl) (PC.summ_ok sfP_pc gtopG)).cons Tryd.func21 (by kernel_rfl) (PC.summ_ok pcPm_pc gtopG)).cons Tryd.func16 (by kernel_rfl) numS_ok).cons Tryd.func13 (by kernel_rfl) (PC.summ_ok wavP_pc gtopG))
def sumsWFo : List (FuncId × Summ) := [(13, wavP.summ 46), (16, numS), (21, pcPm.summ 46), (18, sfP.summ 46), (14, spFoP.summ 46), (15, rqErP.summ 46)]
theorem baseWFo : Base0 Tryd.prog sumsWFo := ((((((baseO.cons Tryd.func15 (by kernel_rfl) (PC.summ_ok rqErP_pc gtopG)).cons Tryd.func14 (by kernel_rfl) (PC.summ_ok spFoP_pc gtopG)).cons Tryd.func18 (by kernel_rfl) (PC.summ_ok sfP_pc gtopG)).cons Tryd.func21 (by kernel_rfl) (PC.summ_ok pcPm_pc gtopG)).cons Tryd.func16 (by kernel_rfl) numS_ok).cons Tryd.func13 (by kernel_rfl) (PC.summ_ok wavP_pc gtopG))
def sumsWLo : List (FuncId × Summ) := [(13, wavP.summ 46), (16, numS), (21, pcPm.summ 46), (18, sfP.summ 46), (14, spLoP.summ 46), (15, rqErP.summ 46)]
theorem baseWLo : Base0 Tryd.prog sumsWLo := ((((((baseO.cons Tryd.func15 (by kernel_rfl) (PC.summ_ok rqErP_pc gtopG)).cons Tryd.func14 (by kernel_rfl) (PC.summ_ok spLoP_pc gtopG)).cons Tryd.func18 (by kernel_rfl) (PC.summ_ok sfP_pc gtopG)).cons Tryd.func21 (by kernel_rfl) (PC.summ_ok pcPm_pc gtopG)).cons Tryd.func16 (by kernel_rfl) numS_ok).cons Tryd.func13 (by kernel_rfl) (PC.summ_ok wavP_pc gtopG))

variable (T : List Wt) (i : Nat) (s : List UInt8)
abbrev qy1 := pcsOf (wL T [0 + (i : Int).toNat]) (fun js => gpV T (wM T [0 + (i : Int).toNat] :: js)) fun js => gpT T (wM T [0 + (i : Int).toNat] :: js)
abbrev qy2 := (T.length = (splitS s).1.length ∧ (∀ (i : Nat), i < T.length → wK T [i] = wK (splitS s).1 [i]) ∧ (∀ (i : Nat), i < T.length → wX T [i] = wX (splitS s).1 [i]) ∧ (∀ (i : Nat), i < T.length → wN T [i] = wN (splitS s).1 [i]) ∧ ((∀ (i : Nat), i < T.length → wM T [i] = wM (splitS s).1 [i]) ∧ ∀ (i : Nat), i < T.length → wL T [i] = wL (splitS s).1 [i]) ∧ ∀ (i : Nat), i < T.length → wP T [i] = wP (splitS s).1 [i])
abbrev qy3 := (T.length = T.length ∧ (∀ (i : Nat), i < T.length → wK T [i] = wK T [i]) ∧ (∀ (i : Nat), i < T.length → wX T [i] = wX T [i]) ∧ (∀ (i : Nat), i < T.length → wN T [i] = wN T [i]) ∧ ((∀ (i : Nat), i < T.length → wM T [i] = wM T [i]) ∧ ∀ (i : Nat), i < T.length → wL T [i] = wL T [i]) ∧ ∀ (i : Nat), i < T.length → wP T [i] = wP T [i])
abbrev qy4 := ((0 + (i : Int).toNat).blt T.length, true)
abbrev qy5 := ((↑(splitS s).2.1 : Int) != (↑(splitS s).2.1 : Int), false)
abbrev qy6 := (decide ((↑s.length : Int) > 5000), false)
abbrev qy7 := (decide (0 ≤ (i : Int) ∧ (i : Int) < (↑T.length : Int)), true)
abbrev qy8 := true = true ∧ True
abbrev qy9 := ((wM T [0 + (i : Int).toNat] + 1 + (T.length - (wM T [0 + (i : Int).toNat] + (1 : Nat)))).beq T.length, true)
abbrev qy10 := wtE 121 122 T ++ wtE 123 124 T
abbrev qy11 := (decide ((splitS s).2.2 ≠ (0 : Nat)), true)
abbrev qy12 := [(6, vL 123 5 T.length), (45, vL 121 5 T.length), (46, vN T.length), (47, vN (i : Nat))]
set_option maxHeartbeats 4000000 in
theorem wsLong (t0 t1 t2 t3 t4 t5 t6 t7 t8 t9 t10 t11 t12 t13 t14 t15 s : List UInt8) (h : 5000 < s.length)  :
    (RunsTo Tryd.prog 3 [.code (bodyOf Tryd.f3)] (envOf [vS s] Tryd.f3.ntmps) (Sx.look (wsS t0 t1 t2 t3 t4 t5 t6 t7 t8 t9 t10 t11 t12 t13 t14 t15 ++ ([]))) 110 (YES) (Sx.look ([])) 30000) := by
  refine rEn baseWOk 700 (99) 900 110 (hI 3 27) ([]) [(decide ((↑s.length : Int) > 5000), true)] qy8 (oc1 ?_ okn) ?_
  all_goals try dsimp only [qy8]
  all_goals exact sc6

set_option maxHeartbeats 4000000 in
theorem wsESh (t0 t1 t2 t3 t4 t5 t6 t7 t8 t9 t10 t11 t12 t13 t14 t15 s : List UInt8) (h : s.length ≤ 5000) (he : (splitS s).2.2 = 3)  :
    (RunsTo Tryd.prog 3 [.code (bodyOf Tryd.f3)] (envOf [vS s] Tryd.f3.ntmps) (Sx.look (wsS t0 t1 t2 t3 t4 t5 t6 t7 t8 t9 t10 t11 t12 t13 t14 t15 ++ ([]))) 110 (YES) (Sx.look ([])) 30000) := by
  have hk3 : numOf 28 = 3 := rfl
  have hk5 : numOf 29 = 5 := rfl
  have hk4 : numOf 23 = 4 := rfl
  have E' := (⟨hk3, hk5, hk4, he⟩ : _ ∧ _ ∧ _ ∧ _)
  refine rEn baseWSh 700 (99) 900 110 (hI 9 164171) ([]) [(qy6 s), (decide ((splitS s).2.2 = (3 : Nat)), true), (qy11 s), (numOf (if true = true then (28 : Nat) else (12030 : Nat)) != (↑(splitS s).2.2 : Int), false), (qy5 s)] qy8 (oc5 ?_ ?_ ?_ ?_ ?_ okn) ?_
  all_goals try dsimp only [qy6, qy11, qy5, qy8]
  all_goals exact sc52

set_option maxHeartbeats 4000000 in
theorem wsEFo (t0 t1 t2 t3 t4 t5 t6 t7 t8 t9 t10 t11 t12 t13 t14 t15 s : List UInt8) (h : s.length ≤ 5000) (he : (splitS s).2.2 = 5)  :
    (RunsTo Tryd.prog 3 [.code (bodyOf Tryd.f3)] (envOf [vS s] Tryd.f3.ntmps) (Sx.look (wsS t0 t1 t2 t3 t4 t5 t6 t7 t8 t9 t10 t11 t12 t13 t14 t15 ++ ([]))) 110 (YES) (Sx.look ([])) 30000) := by
  have hk3 : numOf 28 = 3 := rfl
  have hk5 : numOf 29 = 5 := rfl
  have hk4 : numOf 23 = 4 := rfl
  have E' := (⟨hk3, hk5, hk4, he⟩ : _ ∧ _ ∧ _ ∧ _)
  refine rEn baseWFo 700 (99) 900 110 (hI 9 164171) ([]) [(qy6 s), (decide ((splitS s).2.2 = (5 : Nat)), true), (qy11 s), (numOf (if true = true then (29 : Nat) else (12030 : Nat)) != (↑(splitS s).2.2 : Int), false), (qy5 s)] qy8 (oc5 ?_ ?_ ?_ ?_ ?_ okn) ?_
  all_goals try dsimp only [qy6, qy11, qy5, qy8]
  all_goals exact sc52

set_option maxHeartbeats 4000000 in
theorem wsELo (t0 t1 t2 t3 t4 t5 t6 t7 t8 t9 t10 t11 t12 t13 t14 t15 s : List UInt8) (h : s.length ≤ 5000) (he : (splitS s).2.2 = 4)  :
    (RunsTo Tryd.prog 3 [.code (bodyOf Tryd.f3)] (envOf [vS s] Tryd.f3.ntmps) (Sx.look (wsS t0 t1 t2 t3 t4 t5 t6 t7 t8 t9 t10 t11 t12 t13 t14 t15 ++ ([]))) 110 (YES) (Sx.look ([])) 30000) := by
  have hk3 : numOf 28 = 3 := rfl
  have hk5 : numOf 29 = 5 := rfl
  have hk4 : numOf 23 = 4 := rfl
  have E' := (⟨hk3, hk5, hk4, he⟩ : _ ∧ _ ∧ _ ∧ _)
  refine rEn baseWLo 700 (99) 900 110 (hI 9 164171) ([]) [(qy6 s), (decide ((splitS s).2.2 = (4 : Nat)), true), (qy11 s), (numOf (if true = true then (23 : Nat) else (12030 : Nat)) != (↑(splitS s).2.2 : Int), false), (qy5 s)] qy8 (oc5 ?_ ?_ ?_ ?_ ?_ okn) ?_
  all_goals try dsimp only [qy6, qy11, qy5, qy8]
  all_goals exact sc52

set_option maxHeartbeats 4000000 in
theorem wsOk (t0 t1 t2 t3 t4 t5 t6 t7 t8 t9 t10 t11 t12 t13 t14 t15 s : List UInt8) (T : List Wt) (h : s.length ≤ 5000) (he : (splitS s).2.2 = 0) (hT : (splitS s).1 = T)  (next : (RunsTo Tryd.prog 3 (headOf Tryd.f3 0) (envAt Tryd.f3.ntmps ([(6, vL 123 5 T.length), (45, vL 121 5 T.length), (46, vN T.length), (47, vN (0 : Nat))])) (Sx.look (wsS t0 t1 t2 t3 t4 t5 t6 t7 t8 t9 t10 t11 t12 t13 t14 t15 ++ (qy10 T))) 110 (YES) (Sx.look []) 30000)) :
    (RunsTo Tryd.prog 3 [.code (bodyOf Tryd.f3)] (envOf [vS s] Tryd.f3.ntmps) (Sx.look (wsS t0 t1 t2 t3 t4 t5 t6 t7 t8 t9 t10 t11 t12 t13 t14 t15 ++ ([]))) 110 (YES) (Sx.look []) 30000) := by
  have E' := (⟨he, hT⟩ : _ ∧ _)
  refine rMo baseWOk 700 (behind Tryd.f3 0) 900 110 (hI 8 10571) ([((123 : Nat), Rn.to (20972 : Nat)), ((121 : Nat), Rn.to (12052 : Nat)), ((124 : Nat), Rn.to (20973 : Nat)), ((122 : Nat), Rn.to (12053 : Nat))]) [(qy6 s), (decide ((splitS s).2.2 = (0 : Nat)), true), (decide ((splitS s).2.2 = (0 : Nat)), true), ((↑(splitS s).1.length : Int) != (↑(splitS s).1.length : Int), false)] (((0 = 0 ∧ T.length = (splitS s).1.length) ∧ (0 = 0 ∧ T.length = (splitS s).1.length) ∧ (↑T.length : Int) = (↑(splitS s).1.length : Int) ∧ (↑(0 : Nat) : Int) = (0 : Int)) ∧ (qy2 T s) ∧ (T.length = (splitS s).1.length ∧ ∀ (m : Nat), m < T.length → gpL T m = gpL (splitS s).1 m ∧ (∀ (i : Nat), i < gpL T m → gpV T [m, i] = gpV (splitS s).1 [m, i]) ∧ ∀ (i : Nat), i < gpL T m → gpT T [m, i] = gpT (splitS s).1 [m, i]) ∧ (qy2 T s) ∧ T.length = (splitS s).1.length ∧ ∀ (m : Nat), m < T.length → gpL T m = gpL (splitS s).1 m ∧ (∀ (i : Nat), i < gpL T m → gpV T [m, i] = gpV (splitS s).1 [m, i]) ∧ ∀ (i : Nat), i < gpL T m → gpT T [m, i] = gpT (splitS s).1 [m, i]) next (oc4 ?_ ?_ ?_ ?_ okn) ?_
  all_goals clear next; try dsimp only [qy6, qy2]
  all_goals exact sc52

set_option maxHeartbeats 4000000 in
theorem wsR (t0 t1 t2 t3 t4 t5 t6 t7 t8 t9 t10 t11 t12 t13 t14 t15 s : List UInt8) (T : List Wt) (i : Nat) (hi : i < T.length) (hT : T.length ≤ 10000) (hn : wL T [i] ≤ 1000) (hq : eqPs (pcsOf (wL T [i]) (fun js => gpV T (wM T [i] :: js)) (fun js => gpT T (wM T [i] :: js))).length (prV (pcsOf (wL T [i]) (fun js => gpV T (wM T [i] :: js)) (fun js => gpT T (wM T [i] :: js)))) (prL (pcsOf (wL T [i]) (fun js => gpV T (wM T [i] :: js)) (fun js => gpT T (wM T [i] :: js)))) (fun js => gpV T (wM T [i] :: js)) (fun js => gpT T (wM T [i] :: js)) = true)  (next : (RunsTo Tryd.prog 3 (headOf Tryd.f3 0) (envAt Tryd.f3.ntmps ([(6, vL 123 5 T.length), (45, vL 121 5 T.length), (46, vN T.length), (47, vN (i + 1 : Nat))])) (Sx.look (wsS t0 t1 t2 t3 t4 t5 t6 t7 t8 t9 t10 t11 t12 t13 t14 t15 ++ (qy10 T))) 110 (YES) (Sx.look []) 30000)) :
    (RunsTo Tryd.prog 3 (headOf Tryd.f3 0) (envAt Tryd.f3.ntmps (qy12 T i)) (Sx.look (wsS t0 t1 t2 t3 t4 t5 t6 t7 t8 t9 t10 t11 t12 t13 t14 t15 ++ (qy10 T))) 110 (YES) (Sx.look []) 30000) := by
  have hw : IntKind.i64.wrap ((i : Int) + 1) = ((i + 1 : Nat) : Int) := by rw [wr64 (by omega)]; rfl
  have hmk : wM T [i] < T.length := by simp only [wM, List.headD]; omega
  have hgl : wL T [i] ≤ gpL T (wM T [i]) := by simp only [wL, gpL, wM, List.headD]; rw [show T.length - 1 - (T.length - 1 - i) = i by omega]; exact Nat.le_refl _
  have hpl := pcsOf_len (wL T [i]) (fun js => gpV T (wM T [i] :: js)) (fun js => gpT T (wM T [i] :: js))
  have E' := (⟨hw, hpl⟩ : _ ∧ _)
  refine rMo baseWOk 700 (behind Tryd.f3 0) 900 160 (hI 16 2505135445) ([]) [(decide ((i : Int) < (↑T.length : Int)), true), (qy7 T i), (qy4 T i), (qy4 T i), (qy9 T i), (decide (wL T [0 + (i : Int).toNat] ≤ gpL T (wM T [0 + (i : Int).toNat])) && decide (wL T [0 + (i : Int).toNat] ≤ (1000 : Nat)), true), (qy7 T i), (qy4 T i), (qy4 T i), (wP T [0 + (i : Int).toNat] != wP T [0 + (i : Int).toNat], false), (qy7 T i), (qy4 T i), (qy4 T i), (qy9 T i), (decide (wK T [0 + (i : Int).toNat] = wK T [0 + (i : Int).toNat]) && (decide (wX T [0 + (i : Int).toNat] = wX T [0 + (i : Int).toNat]) && (decide (wN T [0 + (i : Int).toNat] = wN T [0 + (i : Int).toNat]) && (decide ((qy1 T i).length = wL T [0 + (i : Int).toNat]) && (decide ((qy1 T i).length ≤ (qy1 T i).length) && (decide ((qy1 T i).length ≤ gpL T (wM T [0 + (i : Int).toNat])) && (decide ((qy1 T i).length ≤ (1000 : Nat)) && eqPs (qy1 T i).length (prV (qy1 T i)) (prL (qy1 T i)) (fun js => gpV T (wM T [0 + (i : Int).toNat] :: js)) fun js => gpT T (wM T [0 + (i : Int).toNat] :: js))))))), true)] (((0 = 0 ∧ T.length = T.length) ∧ (0 = 0 ∧ T.length = T.length) ∧ (↑T.length : Int) = (↑T.length : Int) ∧ (↑(i + (1 : Nat)) : Int) = IntKind.i64.wrap ((i : Int) + 1)) ∧ (qy3 T) ∧ (T.length = T.length ∧ ∀ (m : Nat), m < T.length → gpL T m = gpL T m ∧ (∀ (i : Nat), i < gpL T m → gpV T [m, i] = gpV T [m, i]) ∧ ∀ (i : Nat), i < gpL T m → gpT T [m, i] = gpT T [m, i]) ∧ (qy3 T) ∧ T.length = T.length ∧ ∀ (m : Nat), m < T.length → gpL T m = gpL T m ∧ (∀ (i : Nat), i < gpL T m → gpV T [m, i] = gpV T [m, i]) ∧ ∀ (i : Nat), i < gpL T m → gpT T [m, i] = gpT T [m, i]) next (oc6 ?_ ?_ ?_ ?_ ?_ ?_ (oc9 ?_ ?_ ?_ ?_ ?_ ?_ ?_ ?_ ?_ okn)) ?_
  all_goals clear next; try dsimp only [qy7, qy4, qy9, qy1, qy3]
  all_goals exact sc53

set_option maxHeartbeats 4000000 in
theorem wsEnd (t0 t1 t2 t3 t4 t5 t6 t7 t8 t9 t10 t11 t12 t13 t14 t15 s : List UInt8) (T : List Wt) (i : Nat) (hi : i = T.length)  :
    (RunsTo Tryd.prog 3 (headOf Tryd.f3 0) (envAt Tryd.f3.ntmps (qy12 T i)) (Sx.look (wsS t0 t1 t2 t3 t4 t5 t6 t7 t8 t9 t10 t11 t12 t13 t14 t15 ++ (qy10 T))) 110 (YES) (Sx.look ([])) 30000) := by
  refine rEn baseWOk 700 (99) 900 160 (hI 1 0) ([]) [(decide ((i : Int) < (↑T.length : Int)), false)] qy8 (oc1 ?_ okn) ?_
  all_goals try dsimp only [qy8]
  all_goals exact sc6

end Go.Proofs.YtaleenklamognaaDoor

