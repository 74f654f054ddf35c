/- Telling: tokens as bytes. -/
import Derived.Test.YtcphocfnhekdaaaDoorUaC
set_option linter.unusedSimpArgs false
set_option linter.unusedVariables false
set_option maxRecDepth 100000
namespace Go.Proofs.YtcphocfnhekdaaaDoor
open Go.Sx

open GramR
/-- A token's bytes; or which error: 1 kind, 2 range, 3 long. -/
def byN (n : Int) : Bool := decide (0 ≤ n) && decide (n ≤ 255)
def u8o (n : Int) : UInt8 := UInt8.ofNat n.toNat
def plR (c : Int) : List UInt8 ⊕ Nat := if 241 ≤ c ∧ c ≤ 249 then .inl [255, u8o c] else .inr 1
def vbR (c o : Int) : List UInt8 ⊕ Nat := if ¬ (251 ≤ c ∧ c ≤ 254) then .inr 1 else if byN o = false then .inr 2 else .inl [255, u8o c, u8o o]
def sbR (o : Int) (b : List UInt8) : List UInt8 ⊕ Nat := if byN o = false then .inr 2 else if 256 < b.length then .inr 3 else .inl ([255, 250, u8o o] ++ dbl b ++ [255, 240])
def tkR (k c o : Int) (b : List UInt8) (cut : Bool) : List UInt8 ⊕ Nat :=
  if k = 1 then (if byN c = false then .inr 2 else .inl (dbl [u8o c]))
  else if k = 2 then plR c
  else if k = 3 then vbR c o
  else if k = 4 then (match sbR o b with | .inl l => if cut = true then .inr 3 else .inl l | .inr e => .inr e)
  else .inr 1
def isB : List UInt8 ⊕ Nat → Bool | .inl _ => true | .inr _ => false
def isE (k : Nat) : List UInt8 ⊕ Nat → Bool | .inl _ => false | .inr e => e == k
def theB : List UInt8 ⊕ Nat → List UInt8 | .inl l => l | .inr _ => []
def dbs (N : Nat) (B : Ix → Int) : List UInt8 := dbl (bytesOf B [] 0 N)
def subL (o : Int) (d : List UInt8) : List UInt8 := [255, 250, u8o o] ++ d ++ [255, 240]
theorem u8o_wr {n : Int} (h : byN n = true) : IntKind.u8.wrap n = ((u8o n).toNat : Int) := by
  simp only [byN, Bool.and_eq_true, decide_eq_true_eq] at h
  rw [u8id (by omega)]
  exact (u8of (by omega)).symm
theorem byN_T {n : Int} : (byN n = true) = (0 ≤ n ∧ n ≤ 255) := by simp [byN]
theorem byN_F {n : Int} : (byN n = false) = (n < 0 ∨ 255 < n) := by simp [byN, Bool.and_eq_false_iff]; constructor <;> intro h <;> omega
theorem app3 (a d c : List UInt8) (g1 g2 g3 z : Ix → Int) (h1 : ∀ j, j < a.length → g1 [j] = ((a.getD j 0).toNat : Int)) (h2 : ∀ j, j < d.length → g2 [j] = ((d.getD j 0).toNat : Int)) (h3 : ∀ j, j < c.length → g3 [j] = ((c.getD j 0).toNat : Int)) :
    ∀ k, k < (a ++ d ++ c).length → (((a ++ d ++ c).getD k 0).toNat : Int) = appF (a.length + d.length) 0 (appF a.length 0 (appF 0 0 z g1) g2) g3 [k] := by
  intro k hk
  simp only [appF, Nat.zero_add, Nat.sub_zero]
  simp only [List.length_append] at hk
  by_cases q1 : k < a.length + d.length
  · rw [if_pos q1]
    rw [getD_left (by rw [List.length_append]; exact q1)]
    by_cases q2 : k < a.length
    · rw [if_pos q2, if_neg (by omega), getD_left q2, h1 k q2]
    · rw [if_neg q2]
      have e : a.length + (k - a.length) = k := by omega
      have := getD_right (a := a) (b := d) (i := k - a.length) rfl (0 : UInt8)
      rw [e] at this
      rw [this, h2 _ (by omega)]
  · rw [if_neg q1]
    have e : a.length + d.length + (k - (a.length + d.length)) = k := by omega
    have := getD_right (a := a ++ d) (b := c) (k := a.length + d.length) (i := k - (a.length + d.length)) (by rw [List.length_append]) (0 : UInt8)
    rw [e] at this
    rw [this, h3 _ (by omega)]
theorem app_sub (o : Int) (d : List UInt8) (x : Int) (hu : x = ((u8o o).toNat : Int)) (g2 : Ix → Int) (h2 : ∀ j, j < d.length → g2 [j] = ((d.getD j 0).toNat : Int)) :
    ∀ k, k < 3 + d.length + 2 → (((subL o d).getD k 0).toNat : Int) = appF (3 + d.length) 0 (appF 3 0 (appF 0 0 (fun is => 0) fun js => upd (upd (upd (fun is => 0) [0] 255) [1] 250) [2] x (subIx 0 js)) g2) (fun js => upd (upd (fun is => 0) [0] 255) [1] 240 (subIx 0 js)) [k] := by
  intro k hk
  refine app3 [255, 250, u8o o] d [255, 240] (fun js => upd (upd (upd (fun is => 0) [0] 255) [1] 250) [2] x (subIx 0 js)) g2 (fun js => upd (upd (fun is => 0) [0] 255) [1] 240 (subIx 0 js)) (fun _ => 0) ?_ h2 ?_ k (by simp only [List.length_append, List.length_cons, List.length_nil]; omega)
  · intro j hj
    have : j = 0 ∨ j = 1 ∨ j = 2 := by simp at hj; omega
    rcases this with rfl | rfl | rfl
    · rfl
    · rfl
    · exact hu
  · intro j hj
    have : j = 0 ∨ j = 1 := by simp at hj; omega
    rcases this with rfl | rfl <;> rfl
def sumsD5 : List (FuncId × Summ) := [(64, reP.summ 38)]
theorem baseD5 : Base0 Tryd.prog sumsD5 := (baseO.cons Tryd.func64 (by kernel_rfl) (PC.summ_ok reP_pc gtopG))
theorem dtI_p0 (N M : Nat) (B : Ix → Int) :
    isEnd (evTill Tryd.prog sumsD5 300 (99) 900 23 [.code (bodyOf Tryd.f23)] (envOf [vL 60 1 N] Tryd.f23.ntmps) (rB 60 M B ++ ([])) ⟨[.s true], 80⟩) (endP ([((141 : Nat), Rn.to (143 : Nat))]) (vL 141 1 (dbs N B).length) (bW 141 (dbs N B)) 260) =
    (OkL [(decide ((-1 : Int) = (-1 : Int) ∧ (1 : Nat) = (1 : Nat) ∧ (2 : Nat) = (2 : Nat)) && (decide (N ≤ (100000 : Nat)) && (decide (N ≤ M) && (decide ((255 : Int) = (255 : Int)) && (decide (upd (upd (fun is => (0 : Int)) [(0 : Nat)] (255 : Int)) [(1 : Nat)] (255 : Int) [(0 : Nat)] = (255 : Int)) && (decide (upd (upd (fun is => (0 : Int)) [(0 : Nat)] (255 : Int)) [(1 : Nat)] (255 : Int) [(1 : Nat)] = (255 : Int)) && bndB B N))))), true)] ∧ ((0 : Nat) = (0 : Nat) ∧ (dbs N B).length = (dbl (bytesOf B [] (0 : Nat) N)).length) ∧ (dbs N B).length = (dbl (bytesOf B [] (0 : Nat) N)).length ∧ ∀ (i : Nat), i < (dbs N B).length → (↑((dbs N B).getD i (0 : UInt8)).toNat : Int) = (↑((dbl (bytesOf B [] (0 : Nat) N)).getD i (0 : UInt8)).toNat : Int)) := by kernel_rfl

set_option maxHeartbeats 4000000 in
theorem dtI (N M : Nat) (B : Ix → Int) (hN : N ≤ 100000) (hM : N ≤ M) (hB : bndB B N = true)  :
    RunsTo Tryd.prog 23 [.code (bodyOf Tryd.f23)] (envOf [vL 60 1 N] Tryd.f23.ntmps) (Sx.look (rB 60 M B ++ ([]))) 80 (vL 141 1 (dbs N B).length) (Sx.look (bW 141 (dbs N B))) 260 := by
  refine runs_last baseD5 (Sx.Ends.of (dtI_p0 N M B) ⟨?oo, ?rr⟩) (by kernel_rfl) rfl (gtL (by decide)) (by decide)
  case oo =>
    refine (okc ?_ okn)
    all_goals first | omega | (simp (disch := omega) only [SS]; first | done | omega | exact ⟨⟨rfl, rfl, rfl⟩, by omega, by omega, rfl, rfl, rfl, hB⟩ | exact ⟨by omega, by omega, hB⟩) | (simp [hB, upd]; first | done | omega) | (simp_all; done)
  case rr =>
    repeat' apply And.intro
    all_goals first | exact True.intro | with_reducible rfl | omega | (intros; rfl) | rfl

def dtP : PC := { args := [.v (.vl 60 1 0)], heap := [⟨60, false, 1, .ta 9 (.vi .u8 1)⟩], gs := [], G := 19, tp := 144, n := 80, n' := 260, cond := fun e => decide (eN e 0 ≤ 100000) && (decide (eN e 0 ≤ eN e 9) && bndB (eI e 1) (eN e 0)), v := fun e => vL 141 1 (dbs (eN e 0) (eI e 1)).length, post := fun e => bW 141 (dbs (eN e 0) (eI e 1)) }
theorem dtP_pc : PC.Runs Tryd.prog 23 Tryd.f23 (bodyOf Tryd.f23) dtP := ⟨Tryd.func23, by kernel_rfl, (fun g hg => by first | (cases hg; done) | (revert g; show ∀ g ∈ ([] : List Nat), g < 19; decide)), fun e H hc => by
  have hc : (decide (eN e 0 ≤ 100000) && (decide (eN e 0 ≤ eN e 9) && bndB (eI e 1) (eN e 0))) = true := hc
  try simp only [Bool.and_eq_true, decide_eq_true_eq, Nat.beq_eq] at hc
  exact dtI (eN e 0) (eN e 9) (eI e 1) hc.1 hc.2.1 hc.2.2⟩
def sumsS5 : List (FuncId × Summ) := [(23, dtP.summ 38)]
theorem baseS5 : Base0 Tryd.prog sumsS5 := (baseO.cons Tryd.func23 (by kernel_rfl) (PC.summ_ok dtP_pc gtopG))
theorem suRa_p0 (t2 t3 : List UInt8) (N M : Nat) (B : Ix → Int) (o : Int) :
    isEnd (evTill Tryd.prog sumsS5 300 (99) 900 27 [.code (bodyOf Tryd.f27)] (envOf [vN o, vL 60 1 N] Tryd.f27.ntmps) (sentEnts 19 144 [(2, t2), (3, t3)] ++ rB 60 M B ++ ([])) ⟨[.s false, .t], 80⟩) (endP ([]) (.tup [(false, .vl0), (false, vErr 2)]) ([]) 400) =
    (OkL [(decide (o ≥ (0 : Int)), false)] ∧ (True ∧ (0 : Nat) = (0 : Nat) ∧ True) ∧ True) := by kernel_rfl
theorem suRa_p1 (t2 t3 : List UInt8) (N M : Nat) (B : Ix → Int) (o : Int) :
    isEnd (evTill Tryd.prog sumsS5 300 (99) 900 27 [.code (bodyOf Tryd.f27)] (envOf [vN o, vL 60 1 N] Tryd.f27.ntmps) (sentEnts 19 144 [(2, t2), (3, t3)] ++ rB 60 M B ++ ([])) ⟨[.s true, .s true], 80⟩) (endP ([]) (.tup [(false, .vl0), (false, vErr 2)]) ([]) 400) =
    (OkL [(decide (o ≥ (0 : Int)), true), (!decide (o ≤ (255 : Int)), true)] ∧ (True ∧ (0 : Nat) = (0 : Nat) ∧ True) ∧ True) := by kernel_rfl

set_option maxHeartbeats 4000000 in
theorem suRa (t2 t3 : List UInt8) (N M : Nat) (B : Ix → Int) (o : Int) (ho : byN o = false)  :
    RunsTo Tryd.prog 27 [.code (bodyOf Tryd.f27)] (envOf [vN o, vL 60 1 N] Tryd.f27.ntmps) (Sx.look (sentEnts 19 144 [(2, t2), (3, t3)] ++ rB 60 M B ++ ([]))) 80 (.tup [(false, .vl0), (false, vErr 2)]) (Sx.look ([])) 400 := by
  rw [byN_F] at ho
  refine bcase (c := (decide (o ≥ (0 : Int)))) (fun gg0 => ?_) (fun gg0 => ?_)
  · refine runs_last baseS5 (Sx.Ends.of (suRa_p0 t2 t3 N M B o) ⟨?oo, ?rr⟩) (by kernel_rfl) rfl (gtL (by decide)) (by decide)
    case oo =>
      refine (okc gg0 okn)
      all_goals ((try simp (disch := omega) only [SS]); first | done | omega | assumption | (simp (disch := omega) only [SS] at *; first | done | omega | assumption) | (simp_all; done))
    case rr =>
      try simp (disch := omega) only [SS]
      repeat' apply And.intro
      all_goals first | exact True.intro | with_reducible rfl | omega | (intros; first | exact True.intro | with_reducible rfl | omega | (simp_all; done)) | (simp_all; done) | rfl
  · refine runs_last baseS5 (Sx.Ends.of (suRa_p1 t2 t3 N M B o) ⟨?oo, ?rr⟩) (by kernel_rfl) rfl (gtL (by decide)) (by decide)
    case oo =>
      refine (okc gg0 (okc ?_ okn))
      all_goals ((try simp (disch := omega) only [SS]); first | done | omega | assumption | (simp (disch := omega) only [SS] at *; first | done | omega | assumption) | (simp_all; done))
    case rr =>
      try simp (disch := omega) only [SS]
      repeat' apply And.intro
      all_goals first | exact True.intro | with_reducible rfl | omega | (intros; first | exact True.intro | with_reducible rfl | omega | (simp_all; done)) | (simp_all; done) | rfl

theorem suLo_p0 (t2 t3 : List UInt8) (N M : Nat) (B : Ix → Int) (o : Int) :
    isEnd (evTill Tryd.prog sumsS5 300 (99) 900 27 [.code (bodyOf Tryd.f27)] (envOf [vN o, vL 60 1 N] Tryd.f27.ntmps) (sentEnts 19 144 [(2, t2), (3, t3)] ++ rB 60 M B ++ ([])) ⟨[.s true, .s false, .s true], 80⟩) (endP ([]) (.tup [(false, .vl0), (false, vErr 3)]) ([]) 400) =
    (OkL [(decide (o ≥ (0 : Int)), true), (!decide (o ≤ (255 : Int)), false), (decide ((↑N : Int) > (256 : Int)), true)] ∧ (True ∧ (0 : Nat) = (0 : Nat) ∧ True) ∧ True) := by kernel_rfl

set_option maxHeartbeats 4000000 in
theorem suLo (t2 t3 : List UInt8) (N M : Nat) (B : Ix → Int) (o : Int) (ho : byN o = true) (hN : 256 < N)  :
    RunsTo Tryd.prog 27 [.code (bodyOf Tryd.f27)] (envOf [vN o, vL 60 1 N] Tryd.f27.ntmps) (Sx.look (sentEnts 19 144 [(2, t2), (3, t3)] ++ rB 60 M B ++ ([]))) 80 (.tup [(false, .vl0), (false, vErr 3)]) (Sx.look ([])) 400 := by
  rw [byN_T] at ho
  refine runs_last baseS5 (Sx.Ends.of (suLo_p0 t2 t3 N M B o) ⟨?oo, ?rr⟩) (by kernel_rfl) rfl (gtL (by decide)) (by decide)
  case oo =>
    refine (okc ?_ (okc ?_ (okc ?_ okn)))
    all_goals ((try simp (disch := omega) only [SS]); first | done | omega | assumption | (simp (disch := omega) only [SS] at *; first | done | omega | assumption) | (simp_all; done))
  case rr =>
    try simp (disch := omega) only [SS]
    repeat' apply And.intro
    all_goals first | exact True.intro | with_reducible rfl | omega | (intros; first | exact True.intro | with_reducible rfl | omega | (simp_all; done)) | (simp_all; done) | rfl

theorem suOk_p0 (t2 t3 : List UInt8) (N M : Nat) (B : Ix → Int) (o : Int) :
    isEnd (evTill Tryd.prog sumsS5 300 (99) 900 27 [.code (bodyOf Tryd.f27)] (envOf [vN o, vL 60 1 N] Tryd.f27.ntmps) (sentEnts 19 144 [(2, t2), (3, t3)] ++ rB 60 M B ++ ([])) ⟨[.s true, .s false, .s false, .s true, .t, .t, .t, .f, .t, .t, .t, .s false, .t, .t, .t, .s false, .f, .s false, .s true, .t, .s true, .s true, .s true, .t, .t, .t, .t, .t, .t, .t, .t, .t, .t, .s true, .t, .s true, .t, .t, .t, .t, .s true, .s true, .f], 80⟩) (endP ([((141 : Nat), Rn.to (266 : Nat))]) (.tup [(false, .vl 141 (fun _ => 0) 1 [] (fun _ => (subL o (dbs N B)).length)), (false, .ve0)]) (bW 141 (subL o (dbs N B))) 400) =
    (OkL [(decide (o ≥ (0 : Int)), true), (!decide (o ≤ (255 : Int)), false), (decide ((↑N : Int) > (256 : Int)), false), (decide (N ≤ (100000 : Nat)) && (decide (N ≤ M) && bndB B N), true), (decide (IntKind.i64.wrap (IntKind.i64.wrap ((0 : Int) + (↑(3 : Nat) : Int)) + (↑(dbs N B).length : Int)) < (0 : Int)), false), (decide (IntKind.i64.wrap (IntKind.i64.wrap (IntKind.i64.wrap ((0 : Int) + (↑(3 : Nat) : Int)) + (↑(dbs N B).length : Int)) + (↑(2 : Nat) : Int)) < (0 : Int)), false), (decide (IntKind.i64.wrap (IntKind.i64.wrap (IntKind.i64.wrap ((0 : Int) + (↑(3 : Nat) : Int)) + (↑(dbs N B).length : Int)) + (↑(2 : Nat) : Int)) < (0 : Int)), false), (decide (IntKind.i64.wrap (IntKind.i64.wrap (IntKind.i64.wrap (IntKind.i64.wrap ((0 : Int) + (↑(3 : Nat) : Int)) + (↑(dbs N B).length : Int)) + (↑(2 : Nat) : Int)) - IntKind.i64.wrap ((0 : Int) - (0 : Int))) > (0 : Int)), true), (decide ((1 : Int) ≤ IntKind.i64.wrap (IntKind.i64.wrap (IntKind.i64.wrap (IntKind.i64.wrap ((0 : Int) + (↑(3 : Nat) : Int)) + (↑(dbs N B).length : Int)) + (↑(2 : Nat) : Int)) - IntKind.i64.wrap ((0 : Int) - (0 : Int)))), true), (decide ((↑(1 : Nat) : Int) * IntKind.i64.wrap (IntKind.i64.wrap (IntKind.i64.wrap (IntKind.i64.wrap ((0 : Int) + (↑(3 : Nat) : Int)) + (↑(dbs N B).length : Int)) + (↑(2 : Nat) : Int)) - IntKind.i64.wrap ((0 : Int) - (0 : Int))) ≤ (281474976710656 : Int)), true), (((0 : Nat) + (IntKind.i64.wrap (IntKind.i64.wrap (IntKind.i64.wrap (IntKind.i64.wrap ((0 : Int) + (↑(3 : Nat) : Int)) + (↑(dbs N B).length : Int)) + (↑(2 : Nat) : Int)) - IntKind.i64.wrap ((0 : Int) - (0 : Int)))).toNat).ble (IntKind.i64.wrap (IntKind.i64.wrap (IntKind.i64.wrap (IntKind.i64.wrap ((0 : Int) + (↑(3 : Nat) : Int)) + (↑(dbs N B).length : Int)) + (↑(2 : Nat) : Int)) - IntKind.i64.wrap ((0 : Int) - (0 : Int)))).toNat, true), (((0 : Nat) + (dbs N B).length).ble (dbs N B).length, true), (decide (((2 : Nat) * ((0 : Nat) + (3 : Nat) + (dbs N B).length) + (192 : Nat)) * (1 : Nat) ≤ (281474976710656 : Nat)), true), (((0 : Nat) + ((0 : Nat) + (3 : Nat) + (dbs N B).length)).ble ((0 : Nat) + (3 : Nat) + (dbs N B).length), true), (decide (((2 : Nat) * ((0 : Nat) + (3 : Nat) + (dbs N B).length + (2 : Nat)) + (192 : Nat)) * (1 : Nat) ≤ (281474976710656 : Nat)), true)] ∧ (((0 : Nat) = (0 : Nat) ∧ (subL o (dbs N B)).length = (0 : Nat) + (3 : Nat) + (dbs N B).length + (2 : Nat)) ∧ True ∧ True) ∧ (subL o (dbs N B)).length = (0 : Nat) + (3 : Nat) + (dbs N B).length + (2 : Nat) ∧ ∀ (i : Nat), i < (subL o (dbs N B)).length → (↑((subL o (dbs N B)).getD i (0 : UInt8)).toNat : Int) = appF ((0 : Nat) + (3 : Nat) + (dbs N B).length) (0 : Nat) (appF ((0 : Nat) + (3 : Nat)) (0 : Nat) (appF (0 : Nat) (0 : Nat) (fun is => (0 : Int)) fun js => upd (upd (upd (fun is => (0 : Int)) [(0 : Nat)] (255 : Int)) [(1 : Nat)] (250 : Int)) [(2 : Nat)] (IntKind.u8.wrap o) (subIx (0 : Nat) js)) fun js => (↑((dbs N B).getD (List.headD (subIx (0 : Nat) js) (0 : Nat)) (0 : UInt8)).toNat : Int)) (fun js => upd (upd (fun is => (0 : Int)) [(0 : Nat)] (255 : Int)) [(1 : Nat)] (240 : Int) (subIx (0 : Nat) js)) [i]) := by kernel_rfl

set_option maxHeartbeats 4000000 in
theorem suOk (t2 t3 : List UInt8) (N M : Nat) (B : Ix → Int) (o : Int) (ho : byN o = true) (hN : N ≤ 256) (hM : N ≤ M) (hB : bndB B N = true)  :
    RunsTo Tryd.prog 27 [.code (bodyOf Tryd.f27)] (envOf [vN o, vL 60 1 N] Tryd.f27.ntmps) (Sx.look (sentEnts 19 144 [(2, t2), (3, t3)] ++ rB 60 M B ++ ([]))) 80 (.tup [(false, .vl 141 (fun _ => 0) 1 [] (fun _ => (subL o (dbs N B)).length)), (false, .ve0)]) (Sx.look (bW 141 (subL o (dbs N B)))) 400 := by
  have hu := u8o_wr ho
  rw [byN_T] at ho
  have hl := dbl_len (bytesOf B [] 0 N)
  have hle := cnt5_le (bytesOf B [] 0 N)
  rw [bytesOf_len] at hl hle
  have hdl : (dbs N B).length ≤ 512 := by show (dbl (bytesOf B [] 0 N)).length ≤ 512; omega
  have hsl : (subL o (dbs N B)).length = 3 + (dbs N B).length + 2 := by simp [subL]; omega
  have w1 : IntKind.i64.wrap ((0 : Int) + 3) = 3 := rfl
  have w2 : IntKind.i64.wrap ((3 : Int) + ((dbs N B).length : Int)) = ((3 + (dbs N B).length : Nat) : Int) := by rw [wr64 (by omega)]; omega
  have w3 : IntKind.i64.wrap (((3 + (dbs N B).length : Nat) : Int) + 2) = ((3 + (dbs N B).length + 2 : Nat) : Int) := by rw [wr64 (by omega)]; omega
  have w4 : IntKind.i64.wrap (((3 + (dbs N B).length + 2 : Nat) : Int) - 0) = ((3 + (dbs N B).length + 2 : Nat) : Int) := by rw [wr64 (by omega)]; omega
  refine runs_last baseS5 (Sx.Ends.of (suOk_p0 t2 t3 N M B o) ⟨?oo, ?rr⟩) (by kernel_rfl) rfl (gtL (by decide)) (by decide)
  case oo =>
    refine (okc ?_ (okc ?_ (okc ?_ (okc ?_ (okc ?_ (okc ?_ (okc ?_ (okc ?_ (okc ?_ (okc ?_ (okc ?_ (okc ?_ (okc ?_ (okc ?_ (okc ?_ okn)))))))))))))))
    all_goals first | omega | (simp (disch := omega) only [SS, hsl, w1, w2, w3, w4, Go.Sx.sum, Int.toNat_natCast]; first | done | omega | exact ⟨by omega, by omega, hB⟩) | (simp_all; done) | (simp_all; omega)
  case rr =>
    try simp (disch := omega) only [SS, hsl, w1, w2, w3, w4, Go.Sx.sum, Int.toNat_natCast]
    repeat' apply And.intro
    all_goals first | exact True.intro | with_reducible rfl | omega | exact app_sub o (dbs N B) _ hu _ (fun j hj => by show (((dbs N B).getD (0 + j) 0).toNat : Int) = _; rw [Nat.zero_add]) | (simp_all; done)

end Go.Proofs.YtcphocfnhekdaaaDoor

set_option linter.unusedSimpArgs false
set_option linter.unusedVariables false
set_option maxRecDepth 100000
namespace Go.Proofs.YtcphocfnhekdaaaDoor
open Go.Sx

open GramR
def textAt2 (H : List Ent) (g : Nat) : List UInt8 := match Sx.look H g with | some b => objText b | none => []
def suRaP : PC := { args := [.v (.vi .i64 2), .v (.vl 60 1 0)], heap := [⟨60, false, 1, .ta 9 (.vi .u8 1)⟩], gs := [2, 3], G := 19, tp := 144, n := 80, n' := 400, cond := fun e => !byN (eI e 2 []), v := fun e => .tup [(false, .vl0), (false, vErr 2)], post := fun e => [] }
theorem suRaP_pc : PC.Runs Tryd.prog 27 Tryd.f27 (bodyOf Tryd.f27) suRaP := ⟨Tryd.func27, by kernel_rfl, (fun g hg => by first | (cases hg; done) | (revert g; show ∀ g ∈ ([2, 3] : List Nat), g < 19; decide)), fun e H hc => by
  have hc : (!byN (eI e 2 [])) = true := hc
  try simp only [Bool.and_eq_true, decide_eq_true_eq, Nat.beq_eq] at hc
  exact suRa (textAt2 H (19 + 2)) (textAt2 H (19 + 3)) (eN e 0) (eN e 9) (eI e 1) (eI e 2 []) (by simpa using hc)⟩
def suLoP : PC := { args := [.v (.vi .i64 2), .v (.vl 60 1 0)], heap := [⟨60, false, 1, .ta 9 (.vi .u8 1)⟩], gs := [2, 3], G := 19, tp := 144, n := 80, n' := 400, cond := fun e => byN (eI e 2 []) && decide (256 < eN e 0), v := fun e => .tup [(false, .vl0), (false, vErr 3)], post := fun e => [] }
theorem suLoP_pc : PC.Runs Tryd.prog 27 Tryd.f27 (bodyOf Tryd.f27) suLoP := ⟨Tryd.func27, by kernel_rfl, (fun g hg => by first | (cases hg; done) | (revert g; show ∀ g ∈ ([2, 3] : List Nat), g < 19; decide)), fun e H hc => by
  have hc : (byN (eI e 2 []) && decide (256 < eN e 0)) = true := hc
  try simp only [Bool.and_eq_true, decide_eq_true_eq, Nat.beq_eq] at hc
  exact suLo (textAt2 H (19 + 2)) (textAt2 H (19 + 3)) (eN e 0) (eN e 9) (eI e 1) (eI e 2 []) hc.1 hc.2⟩
def suOkP : PC := { args := [.v (.vi .i64 2), .v (.vl 60 1 0)], heap := [⟨60, false, 1, .ta 9 (.vi .u8 1)⟩], gs := [2, 3], G := 19, tp := 144, n := 80, n' := 400, cond := fun e => byN (eI e 2 []) && (decide (eN e 0 ≤ 256) && (decide (eN e 0 ≤ eN e 9) && bndB (eI e 1) (eN e 0))), v := fun e => .tup [(false, .vl 141 (fun _ => 0) 1 [] (fun _ => (subL (eI e 2 []) (dbs (eN e 0) (eI e 1))).length)), (false, .ve0)], post := fun e => bW 141 (subL (eI e 2 []) (dbs (eN e 0) (eI e 1))) }
theorem suOkP_pc : PC.Runs Tryd.prog 27 Tryd.f27 (bodyOf Tryd.f27) suOkP := ⟨Tryd.func27, by kernel_rfl, (fun g hg => by first | (cases hg; done) | (revert g; show ∀ g ∈ ([2, 3] : List Nat), g < 19; decide)), fun e H hc => by
  have hc : (byN (eI e 2 []) && (decide (eN e 0 ≤ 256) && (decide (eN e 0 ≤ eN e 9) && bndB (eI e 1) (eN e 0)))) = true := hc
  try simp only [Bool.and_eq_true, decide_eq_true_eq, Nat.beq_eq] at hc
  exact suOk (textAt2 H (19 + 2)) (textAt2 H (19 + 3)) (eN e 0) (eN e 9) (eI e 1) (eI e 2 []) hc.1 hc.2.1 hc.2.2.1 hc.2.2.2⟩
def sumsTOk : List (FuncId × Summ) := [(23, dtP.summ 38), (27, suOkP.summ 38)]
theorem baseTOk : Base0 Tryd.prog sumsTOk := ((baseO.cons Tryd.func27 (by kernel_rfl) (PC.summ_ok suOkP_pc gtopG)).cons Tryd.func23 (by kernel_rfl) (PC.summ_ok dtP_pc gtopG))
def sumsTRa : List (FuncId × Summ) := [(23, dtP.summ 38), (27, suRaP.summ 38)]
theorem baseTRa : Base0 Tryd.prog sumsTRa := ((baseO.cons Tryd.func27 (by kernel_rfl) (PC.summ_ok suRaP_pc gtopG)).cons Tryd.func23 (by kernel_rfl) (PC.summ_ok dtP_pc gtopG))
def sumsTLo : List (FuncId × Summ) := [(23, dtP.summ 38), (27, suLoP.summ 38)]
theorem baseTLo : Base0 Tryd.prog sumsTLo := ((baseO.cons Tryd.func27 (by kernel_rfl) (PC.summ_ok suLoP_pc gtopG)).cons Tryd.func23 (by kernel_rfl) (PC.summ_ok dtP_pc gtopG))
def tkB (k c o : Int) (N : Nat) (B : Ix → Int) (cut : Bool) : List UInt8 := theB (tkR k c o (bytesOf B [] 0 N) cut)
def tkC (k c o : Int) (N : Nat) (B : Ix → Int) (cut : Bool) : Nat := match tkR k c o (bytesOf B [] 0 N) cut with | .inl _ => 0 | .inr e => e
theorem kk1r_p0 (t1 t2 t3 : List UInt8) (N M : Nat) (B : Ix → Int) (k c o : Int) (cut : Bool) :
    isEnd (evTill Tryd.prog sumsTOk 300 (99) 900 30 [.code (bodyOf Tryd.f30)] (envOf [.agg (.tc (.vi .i64 fun _ => k) (.tc (.vi .i64 fun _ => c) (.tc (.vi .i64 fun _ => o) (.tc (.vl 60 (fun _ => 0) 1 [] (fun _ => N)) (.tc (.vb fun _ => cut) .t0)))))] Tryd.f30.ntmps) (sentEnts 19 144 [(1, t1), (2, t2), (3, t3)] ++ rB 60 M B ++ ([])) ⟨[.s true, .s false, .t], 80⟩) (endP ([]) (.tup [(false, .vl0), (false, vErr 2)]) ([]) 700) =
    (OkL [(k == (1 : Int), true), (decide (c ≥ (0 : Int)), false)] ∧ (True ∧ (0 : Nat) = (0 : Nat) ∧ True) ∧ True) := by kernel_rfl
theorem kk1r_p1 (t1 t2 t3 : List UInt8) (N M : Nat) (B : Ix → Int) (k c o : Int) (cut : Bool) :
    isEnd (evTill Tryd.prog sumsTOk 300 (99) 900 30 [.code (bodyOf Tryd.f30)] (envOf [.agg (.tc (.vi .i64 fun _ => k) (.tc (.vi .i64 fun _ => c) (.tc (.vi .i64 fun _ => o) (.tc (.vl 60 (fun _ => 0) 1 [] (fun _ => N)) (.tc (.vb fun _ => cut) .t0)))))] Tryd.f30.ntmps) (sentEnts 19 144 [(1, t1), (2, t2), (3, t3)] ++ rB 60 M B ++ ([])) ⟨[.s true, .s true, .s true], 80⟩) (endP ([]) (.tup [(false, .vl0), (false, vErr 2)]) ([]) 700) =
    (OkL [(k == (1 : Int), true), (decide (c ≥ (0 : Int)), true), (!decide (c ≤ (255 : Int)), true)] ∧ (True ∧ (0 : Nat) = (0 : Nat) ∧ True) ∧ True) := by kernel_rfl

set_option maxHeartbeats 4000000 in
theorem kk1r (t1 t2 t3 : List UInt8) (N M : Nat) (B : Ix → Int) (k c o : Int) (cut : Bool) (h : k = 1) (hc : byN c = false)  :
    RunsTo Tryd.prog 30 [.code (bodyOf Tryd.f30)] (envOf [.agg (.tc (.vi .i64 fun _ => k) (.tc (.vi .i64 fun _ => c) (.tc (.vi .i64 fun _ => o) (.tc (.vl 60 (fun _ => 0) 1 [] (fun _ => N)) (.tc (.vb fun _ => cut) .t0)))))] Tryd.f30.ntmps) (Sx.look (sentEnts 19 144 [(1, t1), (2, t2), (3, t3)] ++ rB 60 M B ++ ([]))) 80 (.tup [(false, .vl0), (false, vErr 2)]) (Sx.look ([])) 700 := by
  rw [byN_F] at hc
  refine bcase (c := (decide (c ≥ (0 : Int)))) (fun gg0 => ?_) (fun gg0 => ?_)
  · refine runs_last baseTOk (Sx.Ends.of (kk1r_p0 t1 t2 t3 N M B k c o cut) ⟨?oo, ?rr⟩) (by kernel_rfl) rfl (gtL (by decide)) (by decide)
    case oo =>
      refine (okc ?_ (okc gg0 okn))
      all_goals ((try simp (disch := omega) only [SS, h]); first | done | omega | assumption | (simp (disch := omega) only [SS, h] at *; first | done | omega | assumption) | (simp_all; done))
    case rr =>
      try simp (disch := omega) only [SS, h]
      repeat' apply And.intro
      all_goals first | exact True.intro | with_reducible rfl | omega | (intros; first | exact True.intro | with_reducible rfl | omega | (simp_all; done)) | (simp_all; done) | rfl
  · refine runs_last baseTOk (Sx.Ends.of (kk1r_p1 t1 t2 t3 N M B k c o cut) ⟨?oo, ?rr⟩) (by kernel_rfl) rfl (gtL (by decide)) (by decide)
    case oo =>
      refine (okc ?_ (okc gg0 (okc ?_ okn)))
      all_goals ((try simp (disch := omega) only [SS, h]); first | done | omega | assumption | (simp (disch := omega) only [SS, h] at *; first | done | omega | assumption) | (simp_all; done))
    case rr =>
      try simp (disch := omega) only [SS, h]
      repeat' apply And.intro
      all_goals first | exact True.intro | with_reducible rfl | omega | (intros; first | exact True.intro | with_reducible rfl | omega | (simp_all; done)) | (simp_all; done) | rfl

theorem kk1o_p0 (t1 t2 t3 : List UInt8) (N M : Nat) (B : Ix → Int) (k c o : Int) (cut : Bool) :
    isEnd (evTill Tryd.prog sumsTOk 300 (99) 900 30 [.code (bodyOf Tryd.f30)] (envOf [.agg (.tc (.vi .i64 fun _ => k) (.tc (.vi .i64 fun _ => c) (.tc (.vi .i64 fun _ => o) (.tc (.vl 60 (fun _ => 0) 1 [] (fun _ => N)) (.tc (.vb fun _ => cut) .t0)))))] Tryd.f30.ntmps) (sentEnts 19 144 [(1, t1), (2, t2), (3, t3)] ++ rB 60 M B ++ ([])) ⟨[.s true, .s true, .s false, .s true], 80⟩) (endP ([((141 : Nat), Rn.to (143 : Nat))]) (.tup [(false, .vl 141 (fun _ => 0) 1 [] (fun _ => (dbl [u8o c]).length)), (false, .ve0)]) (bW 141 (dbl [u8o c])) 700) =
    (OkL [(k == (1 : Int), true), (decide (c ≥ (0 : Int)), true), (!decide (c ≤ (255 : Int)), false), (decide ((1 : Nat) ≤ (100000 : Nat)) && (decide ((1 : Nat) ≤ (1 : Nat)) && bndB (fun is => IntKind.u8.wrap c) (1 : Nat)), true)] ∧ (((0 : Nat) = (0 : Nat) ∧ (dbl [u8o c]).length = (dbs (1 : Nat) fun is => IntKind.u8.wrap c).length) ∧ True ∧ True) ∧ (dbl [u8o c]).length = (dbs (1 : Nat) fun is => IntKind.u8.wrap c).length ∧ ∀ (i : Nat), i < (dbl [u8o c]).length → (↑((dbl [u8o c]).getD i (0 : UInt8)).toNat : Int) = (↑((dbs (1 : Nat) fun is => IntKind.u8.wrap c).getD i (0 : UInt8)).toNat : Int)) := by kernel_rfl

set_option maxHeartbeats 4000000 in
theorem kk1o (t1 t2 t3 : List UInt8) (N M : Nat) (B : Ix → Int) (k c o : Int) (cut : Bool) (h : k = 1) (hc : byN c = true)  :
    RunsTo Tryd.prog 30 [.code (bodyOf Tryd.f30)] (envOf [.agg (.tc (.vi .i64 fun _ => k) (.tc (.vi .i64 fun _ => c) (.tc (.vi .i64 fun _ => o) (.tc (.vl 60 (fun _ => 0) 1 [] (fun _ => N)) (.tc (.vb fun _ => cut) .t0)))))] Tryd.f30.ntmps) (Sx.look (sentEnts 19 144 [(1, t1), (2, t2), (3, t3)] ++ rB 60 M B ++ ([]))) 80 (.tup [(false, .vl 141 (fun _ => 0) 1 [] (fun _ => (dbl [u8o c]).length)), (false, .ve0)]) (Sx.look (bW 141 (dbl [u8o c]))) 700 := by
  rw [byN_T] at hc
  have hb1 : bndB (fun is => IntKind.u8.wrap c) 1 = true := bndB_of fun i hi => by rw [u8o_wr (Eq.mpr byN_T hc)]; exact u8nat _
  have hd : dbs 1 (fun is => IntKind.u8.wrap c) = dbl [u8o c] := by
      have e0 : IntKind.u8.wrap c = c := u8id ⟨by omega, by omega⟩
      show dbl [UInt8.ofNat (IntKind.u8.wrap c).toNat] = _
      rw [e0]; rfl
  have hu : True := trivial
  have hv := hu
  refine runs_last baseTOk (Sx.Ends.of (kk1o_p0 t1 t2 t3 N M B k c o cut) ⟨?oo, ?rr⟩) (by kernel_rfl) rfl (gtL (by decide)) (by decide)
  case oo =>
    refine (okc ?_ (okc ?_ (okc ?_ (okc ?_ okn))))
    all_goals first | omega | (simp (disch := omega) only [SS, h, hd, hb1]; first | done | omega | exact ⟨by omega, by omega, by omega, hB⟩) | (simp_all; done) | (simp_all; omega) | (simp [bndB, upd, List.range_succ]; omega)
  case rr =>
    try simp (disch := omega) only [SS, h, hd, hb1]
    repeat' apply And.intro
    all_goals first | exact True.intro | with_reducible rfl | omega | (intros; rfl) | (intro j hj; have : j = 0 ∨ j = 1 := (by simp at hj; omega); rcases this with rfl | rfl <;> first | rfl | exact hu.symm | exact hu) | (intro j hj; have : j = 0 ∨ j = 1 ∨ j = 2 := (by simp at hj; omega); rcases this with rfl | rfl | rfl <;> first | rfl | exact hu.symm | exact hv.symm | exact hu | exact hv) | (simp_all; done)

theorem kk2o_p0 (t1 t2 t3 : List UInt8) (N M : Nat) (B : Ix → Int) (k c o : Int) (cut : Bool) :
    isEnd (evTill Tryd.prog sumsTOk 300 (99) 900 30 [.code (bodyOf Tryd.f30)] (envOf [.agg (.tc (.vi .i64 fun _ => k) (.tc (.vi .i64 fun _ => c) (.tc (.vi .i64 fun _ => o) (.tc (.vl 60 (fun _ => 0) 1 [] (fun _ => N)) (.tc (.vb fun _ => cut) .t0)))))] Tryd.f30.ntmps) (sentEnts 19 144 [(1, t1), (2, t2), (3, t3)] ++ rB 60 M B ++ ([])) ⟨[.s false, .s true, .s true, .s false], 80⟩) (endP ([((141 : Nat), Rn.to (81 : Nat))]) (.tup [(false, .vl 141 (fun _ => 0) 1 [] (fun _ => ([255, u8o c]).length)), (false, .ve0)]) (bW 141 ([255, u8o c])) 700) =
    (OkL [(k == (1 : Int), false), (k == (2 : Int), true), (decide (c ≥ (241 : Int)), true), (!decide (c ≤ (249 : Int)), false)] ∧ (((0 : Nat) = (0 : Nat) ∧ [(255 : UInt8), u8o c].length = (2 : Nat)) ∧ True ∧ True) ∧ [(255 : UInt8), u8o c].length = (2 : Nat) ∧ ∀ (i : Nat), i < [(255 : UInt8), u8o c].length → (↑([(255 : UInt8), u8o c].getD i (0 : UInt8)).toNat : Int) = upd (upd (fun is => (0 : Int)) [(0 : Nat)] (255 : Int)) [(1 : Nat)] (IntKind.u8.wrap c) [i]) := by kernel_rfl

set_option maxHeartbeats 4000000 in
theorem kk2o (t1 t2 t3 : List UInt8) (N M : Nat) (B : Ix → Int) (k c o : Int) (cut : Bool) (h : k = 2) (h2 : 241 ≤ c ∧ c ≤ 249)  :
    RunsTo Tryd.prog 30 [.code (bodyOf Tryd.f30)] (envOf [.agg (.tc (.vi .i64 fun _ => k) (.tc (.vi .i64 fun _ => c) (.tc (.vi .i64 fun _ => o) (.tc (.vl 60 (fun _ => 0) 1 [] (fun _ => N)) (.tc (.vb fun _ => cut) .t0)))))] Tryd.f30.ntmps) (Sx.look (sentEnts 19 144 [(1, t1), (2, t2), (3, t3)] ++ rB 60 M B ++ ([]))) 80 (.tup [(false, .vl 141 (fun _ => 0) 1 [] (fun _ => ([255, u8o c]).length)), (false, .ve0)]) (Sx.look (bW 141 ([255, u8o c]))) 700 := by
  have hu := u8o_wr (n := c) (by rw [byN_T]; omega)
  have hv := hu
  refine runs_last baseTOk (Sx.Ends.of (kk2o_p0 t1 t2 t3 N M B k c o cut) ⟨?oo, ?rr⟩) (by kernel_rfl) rfl (gtL (by decide)) (by decide)
  case oo =>
    refine (okc ?_ (okc ?_ (okc ?_ (okc ?_ okn))))
    all_goals first | omega | (simp (disch := omega) only [SS, h]; first | done | omega | exact ⟨by omega, by omega, by omega, hB⟩) | (simp_all; done) | (simp_all; omega) | (simp [bndB, upd, List.range_succ]; omega)
  case rr =>
    try simp (disch := omega) only [SS, h]
    repeat' apply And.intro
    all_goals first | exact True.intro | with_reducible rfl | omega | (intros; rfl) | (intro j hj; have : j = 0 ∨ j = 1 := (by simp at hj; omega); rcases this with rfl | rfl <;> first | rfl | exact hu.symm | exact hu) | (intro j hj; have : j = 0 ∨ j = 1 ∨ j = 2 := (by simp at hj; omega); rcases this with rfl | rfl | rfl <;> first | rfl | exact hu.symm | exact hv.symm | exact hu | exact hv) | (simp_all; done)

theorem kk2k_p0 (t1 t2 t3 : List UInt8) (N M : Nat) (B : Ix → Int) (k c o : Int) (cut : Bool) :
    isEnd (evTill Tryd.prog sumsTOk 300 (99) 900 30 [.code (bodyOf Tryd.f30)] (envOf [.agg (.tc (.vi .i64 fun _ => k) (.tc (.vi .i64 fun _ => c) (.tc (.vi .i64 fun _ => o) (.tc (.vl 60 (fun _ => 0) 1 [] (fun _ => N)) (.tc (.vb fun _ => cut) .t0)))))] Tryd.f30.ntmps) (sentEnts 19 144 [(1, t1), (2, t2), (3, t3)] ++ rB 60 M B ++ ([])) ⟨[.s false, .s true, .s false, .t], 80⟩) (endP ([]) (.tup [(false, .vl0), (false, vErr 1)]) ([]) 700) =
    (OkL [(k == (1 : Int), false), (k == (2 : Int), true), (decide (c ≥ (241 : Int)), false)] ∧ (True ∧ (0 : Nat) = (0 : Nat) ∧ True) ∧ True) := by kernel_rfl
theorem kk2k_p1 (t1 t2 t3 : List UInt8) (N M : Nat) (B : Ix → Int) (k c o : Int) (cut : Bool) :
    isEnd (evTill Tryd.prog sumsTOk 300 (99) 900 30 [.code (bodyOf Tryd.f30)] (envOf [.agg (.tc (.vi .i64 fun _ => k) (.tc (.vi .i64 fun _ => c) (.tc (.vi .i64 fun _ => o) (.tc (.vl 60 (fun _ => 0) 1 [] (fun _ => N)) (.tc (.vb fun _ => cut) .t0)))))] Tryd.f30.ntmps) (sentEnts 19 144 [(1, t1), (2, t2), (3, t3)] ++ rB 60 M B ++ ([])) ⟨[.s false, .s true, .s true, .s true], 80⟩) (endP ([]) (.tup [(false, .vl0), (false, vErr 1)]) ([]) 700) =
    (OkL [(k == (1 : Int), false), (k == (2 : Int), true), (decide (c ≥ (241 : Int)), true), (!decide (c ≤ (249 : Int)), true)] ∧ (True ∧ (0 : Nat) = (0 : Nat) ∧ True) ∧ True) := by kernel_rfl

set_option maxHeartbeats 4000000 in
theorem kk2k (t1 t2 t3 : List UInt8) (N M : Nat) (B : Ix → Int) (k c o : Int) (cut : Bool) (h : k = 2) (h2 : ¬ (241 ≤ c ∧ c ≤ 249))  :
    RunsTo Tryd.prog 30 [.code (bodyOf Tryd.f30)] (envOf [.agg (.tc (.vi .i64 fun _ => k) (.tc (.vi .i64 fun _ => c) (.tc (.vi .i64 fun _ => o) (.tc (.vl 60 (fun _ => 0) 1 [] (fun _ => N)) (.tc (.vb fun _ => cut) .t0)))))] Tryd.f30.ntmps) (Sx.look (sentEnts 19 144 [(1, t1), (2, t2), (3, t3)] ++ rB 60 M B ++ ([]))) 80 (.tup [(false, .vl0), (false, vErr 1)]) (Sx.look ([])) 700 := by
  refine bcase (c := (decide (c ≥ (241 : Int)))) (fun gg0 => ?_) (fun gg0 => ?_)
  · refine runs_last baseTOk (Sx.Ends.of (kk2k_p0 t1 t2 t3 N M B k c o cut) ⟨?oo, ?rr⟩) (by kernel_rfl) rfl (gtL (by decide)) (by decide)
    case oo =>
      refine (okc ?_ (okc ?_ (okc gg0 okn)))
      all_goals ((try simp (disch := omega) only [SS, h]); first | done | omega | assumption | (simp (disch := omega) only [SS, h] at *; first | done | omega | assumption) | (simp_all; done))
    case rr =>
      try simp (disch := omega) only [SS, h]
      repeat' apply And.intro
      all_goals first | exact True.intro | with_reducible rfl | omega | (intros; first | exact True.intro | with_reducible rfl | omega | (simp_all; done)) | (simp_all; done) | rfl
  · refine runs_last baseTOk (Sx.Ends.of (kk2k_p1 t1 t2 t3 N M B k c o cut) ⟨?oo, ?rr⟩) (by kernel_rfl) rfl (gtL (by decide)) (by decide)
    case oo =>
      refine (okc ?_ (okc ?_ (okc gg0 (okc ?_ okn))))
      all_goals ((try simp (disch := omega) only [SS, h]); first | done | omega | assumption | (simp (disch := omega) only [SS, h] at *; first | done | omega | assumption) | (simp_all; done))
    case rr =>
      try simp (disch := omega) only [SS, h]
      repeat' apply And.intro
      all_goals first | exact True.intro | with_reducible rfl | omega | (intros; first | exact True.intro | with_reducible rfl | omega | (simp_all; done)) | (simp_all; done) | rfl

theorem kk3o_p0 (t1 t2 t3 : List UInt8) (N M : Nat) (B : Ix → Int) (k c o : Int) (cut : Bool) :
    isEnd (evTill Tryd.prog sumsTOk 300 (99) 900 30 [.code (bodyOf Tryd.f30)] (envOf [.agg (.tc (.vi .i64 fun _ => k) (.tc (.vi .i64 fun _ => c) (.tc (.vi .i64 fun _ => o) (.tc (.vl 60 (fun _ => 0) 1 [] (fun _ => N)) (.tc (.vb fun _ => cut) .t0)))))] Tryd.f30.ntmps) (sentEnts 19 144 [(1, t1), (2, t2), (3, t3)] ++ rB 60 M B ++ ([])) ⟨[.s false, .s false, .s true, .s true, .s false, .s true, .s false], 80⟩) (endP ([((141 : Nat), Rn.to (81 : Nat))]) (.tup [(false, .vl 141 (fun _ => 0) 1 [] (fun _ => ([255, u8o c, u8o o]).length)), (false, .ve0)]) (bW 141 ([255, u8o c, u8o o])) 700) =
    (OkL [(k == (1 : Int), false), (k == (2 : Int), false), (k == (3 : Int), true), (decide (c ≥ (251 : Int)), true), (!decide (c ≤ (254 : Int)), false), (decide (o ≥ (0 : Int)), true), (!decide (o ≤ (255 : Int)), false)] ∧ (((0 : Nat) = (0 : Nat) ∧ [(255 : UInt8), u8o c, u8o o].length = (3 : Nat)) ∧ True ∧ True) ∧ [(255 : UInt8), u8o c, u8o o].length = (3 : Nat) ∧ ∀ (i : Nat), i < [(255 : UInt8), u8o c, u8o o].length → (↑([(255 : UInt8), u8o c, u8o o].getD i (0 : UInt8)).toNat : Int) = upd (upd (upd (fun is => (0 : Int)) [(0 : Nat)] (255 : Int)) [(1 : Nat)] (IntKind.u8.wrap c)) [(2 : Nat)] (IntKind.u8.wrap o) [i]) := by kernel_rfl

set_option maxHeartbeats 4000000 in
theorem kk3o (t1 t2 t3 : List UInt8) (N M : Nat) (B : Ix → Int) (k c o : Int) (cut : Bool) (h : k = 3) (h2 : 251 ≤ c ∧ c ≤ 254) (ho : byN o = true)  :
    RunsTo Tryd.prog 30 [.code (bodyOf Tryd.f30)] (envOf [.agg (.tc (.vi .i64 fun _ => k) (.tc (.vi .i64 fun _ => c) (.tc (.vi .i64 fun _ => o) (.tc (.vl 60 (fun _ => 0) 1 [] (fun _ => N)) (.tc (.vb fun _ => cut) .t0)))))] Tryd.f30.ntmps) (Sx.look (sentEnts 19 144 [(1, t1), (2, t2), (3, t3)] ++ rB 60 M B ++ ([]))) 80 (.tup [(false, .vl 141 (fun _ => 0) 1 [] (fun _ => ([255, u8o c, u8o o]).length)), (false, .ve0)]) (Sx.look (bW 141 ([255, u8o c, u8o o]))) 700 := by
  have hu := u8o_wr (n := c) (by rw [byN_T]; omega)
  have hv := u8o_wr ho
  rw [byN_T] at ho
  refine runs_last baseTOk (Sx.Ends.of (kk3o_p0 t1 t2 t3 N M B k c o cut) ⟨?oo, ?rr⟩) (by kernel_rfl) rfl (gtL (by decide)) (by decide)
  case oo =>
    refine (okc ?_ (okc ?_ (okc ?_ (okc ?_ (okc ?_ (okc ?_ (okc ?_ okn)))))))
    all_goals first | omega | (simp (disch := omega) only [SS, h]; first | done | omega | exact ⟨by omega, by omega, by omega, hB⟩) | (simp_all; done) | (simp_all; omega) | (simp [bndB, upd, List.range_succ]; omega)
  case rr =>
    try simp (disch := omega) only [SS, h]
    repeat' apply And.intro
    all_goals first | exact True.intro | with_reducible rfl | omega | (intros; rfl) | (intro j hj; have : j = 0 ∨ j = 1 := (by simp at hj; omega); rcases this with rfl | rfl <;> first | rfl | exact hu.symm | exact hu) | (intro j hj; have : j = 0 ∨ j = 1 ∨ j = 2 := (by simp at hj; omega); rcases this with rfl | rfl | rfl <;> first | rfl | exact hu.symm | exact hv.symm | exact hu | exact hv) | (simp_all; done)

theorem kk3k_p0 (t1 t2 t3 : List UInt8) (N M : Nat) (B : Ix → Int) (k c o : Int) (cut : Bool) :
    isEnd (evTill Tryd.prog sumsTOk 300 (99) 900 30 [.code (bodyOf Tryd.f30)] (envOf [.agg (.tc (.vi .i64 fun _ => k) (.tc (.vi .i64 fun _ => c) (.tc (.vi .i64 fun _ => o) (.tc (.vl 60 (fun _ => 0) 1 [] (fun _ => N)) (.tc (.vb fun _ => cut) .t0)))))] Tryd.f30.ntmps) (sentEnts 19 144 [(1, t1), (2, t2), (3, t3)] ++ rB 60 M B ++ ([])) ⟨[.s false, .s false, .s true, .s false, .t], 80⟩) (endP ([]) (.tup [(false, .vl0), (false, vErr 1)]) ([]) 700) =
    (OkL [(k == (1 : Int), false), (k == (2 : Int), false), (k == (3 : Int), true), (decide (c ≥ (251 : Int)), false)] ∧ (True ∧ (0 : Nat) = (0 : Nat) ∧ True) ∧ True) := by kernel_rfl
theorem kk3k_p1 (t1 t2 t3 : List UInt8) (N M : Nat) (B : Ix → Int) (k c o : Int) (cut : Bool) :
    isEnd (evTill Tryd.prog sumsTOk 300 (99) 900 30 [.code (bodyOf Tryd.f30)] (envOf [.agg (.tc (.vi .i64 fun _ => k) (.tc (.vi .i64 fun _ => c) (.tc (.vi .i64 fun _ => o) (.tc (.vl 60 (fun _ => 0) 1 [] (fun _ => N)) (.tc (.vb fun _ => cut) .t0)))))] Tryd.f30.ntmps) (sentEnts 19 144 [(1, t1), (2, t2), (3, t3)] ++ rB 60 M B ++ ([])) ⟨[.s false, .s false, .s true, .s true, .s true], 80⟩) (endP ([]) (.tup [(false, .vl0), (false, vErr 1)]) ([]) 700) =
    (OkL [(k == (1 : Int), false), (k == (2 : Int), false), (k == (3 : Int), true), (decide (c ≥ (251 : Int)), true), (!decide (c ≤ (254 : Int)), true)] ∧ (True ∧ (0 : Nat) = (0 : Nat) ∧ True) ∧ True) := by kernel_rfl

set_option maxHeartbeats 4000000 in
theorem kk3k (t1 t2 t3 : List UInt8) (N M : Nat) (B : Ix → Int) (k c o : Int) (cut : Bool) (h : k = 3) (h2 : ¬ (251 ≤ c ∧ c ≤ 254))  :
    RunsTo Tryd.prog 30 [.code (bodyOf Tryd.f30)] (envOf [.agg (.tc (.vi .i64 fun _ => k) (.tc (.vi .i64 fun _ => c) (.tc (.vi .i64 fun _ => o) (.tc (.vl 60 (fun _ => 0) 1 [] (fun _ => N)) (.tc (.vb fun _ => cut) .t0)))))] Tryd.f30.ntmps) (Sx.look (sentEnts 19 144 [(1, t1), (2, t2), (3, t3)] ++ rB 60 M B ++ ([]))) 80 (.tup [(false, .vl0), (false, vErr 1)]) (Sx.look ([])) 700 := by
  refine bcase (c := (decide (c ≥ (251 : Int)))) (fun gg0 => ?_) (fun gg0 => ?_)
  · refine runs_last baseTOk (Sx.Ends.of (kk3k_p0 t1 t2 t3 N M B k c o cut) ⟨?oo, ?rr⟩) (by kernel_rfl) rfl (gtL (by decide)) (by decide)
    case oo =>
      refine (okc ?_ (okc ?_ (okc ?_ (okc gg0 okn))))
      all_goals ((try simp (disch := omega) only [SS, h]); first | done | omega | assumption | (simp (disch := omega) only [SS, h] at *; first | done | omega | assumption) | (simp_all; done))
    case rr =>
      try simp (disch := omega) only [SS, h]
      repeat' apply And.intro
      all_goals first | exact True.intro | with_reducible rfl | omega | (intros; first | exact True.intro | with_reducible rfl | omega | (simp_all; done)) | (simp_all; done) | rfl
  · refine runs_last baseTOk (Sx.Ends.of (kk3k_p1 t1 t2 t3 N M B k c o cut) ⟨?oo, ?rr⟩) (by kernel_rfl) rfl (gtL (by decide)) (by decide)
    case oo =>
      refine (okc ?_ (okc ?_ (okc ?_ (okc gg0 (okc ?_ okn)))))
      all_goals ((try simp (disch := omega) only [SS, h]); first | done | omega | assumption | (simp (disch := omega) only [SS, h] at *; first | done | omega | assumption) | (simp_all; done))
    case rr =>
      try simp (disch := omega) only [SS, h]
      repeat' apply And.intro
      all_goals first | exact True.intro | with_reducible rfl | omega | (intros; first | exact True.intro | with_reducible rfl | omega | (simp_all; done)) | (simp_all; done) | rfl

theorem kk3r_p0 (t1 t2 t3 : List UInt8) (N M : Nat) (B : Ix → Int) (k c o : Int) (cut : Bool) :
    isEnd (evTill Tryd.prog sumsTOk 300 (99) 900 30 [.code (bodyOf Tryd.f30)] (envOf [.agg (.tc (.vi .i64 fun _ => k) (.tc (.vi .i64 fun _ => c) (.tc (.vi .i64 fun _ => o) (.tc (.vl 60 (fun _ => 0) 1 [] (fun _ => N)) (.tc (.vb fun _ => cut) .t0)))))] Tryd.f30.ntmps) (sentEnts 19 144 [(1, t1), (2, t2), (3, t3)] ++ rB 60 M B ++ ([])) ⟨[.s false, .s false, .s true, .s true, .s false, .s false, .t], 80⟩) (endP ([]) (.tup [(false, .vl0), (false, vErr 2)]) ([]) 700) =
    (OkL [(k == (1 : Int), false), (k == (2 : Int), false), (k == (3 : Int), true), (decide (c ≥ (251 : Int)), true), (!decide (c ≤ (254 : Int)), false), (decide (o ≥ (0 : Int)), false)] ∧ (True ∧ (0 : Nat) = (0 : Nat) ∧ True) ∧ True) := by kernel_rfl
theorem kk3r_p1 (t1 t2 t3 : List UInt8) (N M : Nat) (B : Ix → Int) (k c o : Int) (cut : Bool) :
    isEnd (evTill Tryd.prog sumsTOk 300 (99) 900 30 [.code (bodyOf Tryd.f30)] (envOf [.agg (.tc (.vi .i64 fun _ => k) (.tc (.vi .i64 fun _ => c) (.tc (.vi .i64 fun _ => o) (.tc (.vl 60 (fun _ => 0) 1 [] (fun _ => N)) (.tc (.vb fun _ => cut) .t0)))))] Tryd.f30.ntmps) (sentEnts 19 144 [(1, t1), (2, t2), (3, t3)] ++ rB 60 M B ++ ([])) ⟨[.s false, .s false, .s true, .s true, .s false, .s true, .s true], 80⟩) (endP ([]) (.tup [(false, .vl0), (false, vErr 2)]) ([]) 700) =
    (OkL [(k == (1 : Int), false), (k == (2 : Int), false), (k == (3 : Int), true), (decide (c ≥ (251 : Int)), true), (!decide (c ≤ (254 : Int)), false), (decide (o ≥ (0 : Int)), true), (!decide (o ≤ (255 : Int)), true)] ∧ (True ∧ (0 : Nat) = (0 : Nat) ∧ True) ∧ True) := by kernel_rfl

set_option maxHeartbeats 4000000 in
theorem kk3r (t1 t2 t3 : List UInt8) (N M : Nat) (B : Ix → Int) (k c o : Int) (cut : Bool) (h : k = 3) (h2 : 251 ≤ c ∧ c ≤ 254) (ho : byN o = false)  :
    RunsTo Tryd.prog 30 [.code (bodyOf Tryd.f30)] (envOf [.agg (.tc (.vi .i64 fun _ => k) (.tc (.vi .i64 fun _ => c) (.tc (.vi .i64 fun _ => o) (.tc (.vl 60 (fun _ => 0) 1 [] (fun _ => N)) (.tc (.vb fun _ => cut) .t0)))))] Tryd.f30.ntmps) (Sx.look (sentEnts 19 144 [(1, t1), (2, t2), (3, t3)] ++ rB 60 M B ++ ([]))) 80 (.tup [(false, .vl0), (false, vErr 2)]) (Sx.look ([])) 700 := by
  rw [byN_F] at ho
  refine bcase (c := (decide (o ≥ (0 : Int)))) (fun gg0 => ?_) (fun gg0 => ?_)
  · refine runs_last baseTOk (Sx.Ends.of (kk3r_p0 t1 t2 t3 N M B k c o cut) ⟨?oo, ?rr⟩) (by kernel_rfl) rfl (gtL (by decide)) (by decide)
    case oo =>
      refine (okc ?_ (okc ?_ (okc ?_ (okc ?_ (okc ?_ (okc gg0 okn))))))
      all_goals ((try simp (disch := omega) only [SS, h]); first | done | omega | assumption | (simp (disch := omega) only [SS, h] at *; first | done | omega | assumption) | (simp_all; done))
    case rr =>
      try simp (disch := omega) only [SS, h]
      repeat' apply And.intro
      all_goals first | exact True.intro | with_reducible rfl | omega | (intros; first | exact True.intro | with_reducible rfl | omega | (simp_all; done)) | (simp_all; done) | rfl
  · refine runs_last baseTOk (Sx.Ends.of (kk3r_p1 t1 t2 t3 N M B k c o cut) ⟨?oo, ?rr⟩) (by kernel_rfl) rfl (gtL (by decide)) (by decide)
    case oo =>
      refine (okc ?_ (okc ?_ (okc ?_ (okc ?_ (okc ?_ (okc gg0 (okc ?_ okn)))))))
      all_goals ((try simp (disch := omega) only [SS, h]); first | done | omega | assumption | (simp (disch := omega) only [SS, h] at *; first | done | omega | assumption) | (simp_all; done))
    case rr =>
      try simp (disch := omega) only [SS, h]
      repeat' apply And.intro
      all_goals first | exact True.intro | with_reducible rfl | omega | (intros; first | exact True.intro | with_reducible rfl | omega | (simp_all; done)) | (simp_all; done) | rfl

theorem kk4r_p0 (t1 t2 t3 : List UInt8) (N M : Nat) (B : Ix → Int) (k c o : Int) (cut : Bool) :
    isEnd (evTill Tryd.prog sumsTRa 300 (99) 900 30 [.code (bodyOf Tryd.f30)] (envOf [.agg (.tc (.vi .i64 fun _ => k) (.tc (.vi .i64 fun _ => c) (.tc (.vi .i64 fun _ => o) (.tc (.vl 60 (fun _ => 0) 1 [] (fun _ => N)) (.tc (.vb fun _ => cut) .t0)))))] Tryd.f30.ntmps) (sentEnts 19 144 [(1, t1), (2, t2), (3, t3)] ++ rB 60 M B ++ ([])) ⟨[.s false, .s false, .s false, .s true, .s true, .f], 80⟩) (endP ([]) (.tup [(false, .vl0), (false, vErr 2)]) ([]) 700) =
    (OkL [(k == (1 : Int), false), (k == (2 : Int), false), (k == (3 : Int), false), (k == (4 : Int), true), (!byN o, true)] ∧ (True ∧ (0 : Nat) = (0 : Nat) ∧ True) ∧ True) := by kernel_rfl

set_option maxHeartbeats 4000000 in
theorem kk4r (t1 t2 t3 : List UInt8) (N M : Nat) (B : Ix → Int) (k c o : Int) (cut : Bool) (h : k = 4) (ho : byN o = false)  :
    RunsTo Tryd.prog 30 [.code (bodyOf Tryd.f30)] (envOf [.agg (.tc (.vi .i64 fun _ => k) (.tc (.vi .i64 fun _ => c) (.tc (.vi .i64 fun _ => o) (.tc (.vl 60 (fun _ => 0) 1 [] (fun _ => N)) (.tc (.vb fun _ => cut) .t0)))))] Tryd.f30.ntmps) (Sx.look (sentEnts 19 144 [(1, t1), (2, t2), (3, t3)] ++ rB 60 M B ++ ([]))) 80 (.tup [(false, .vl0), (false, vErr 2)]) (Sx.look ([])) 700 := by
  refine runs_last baseTRa (Sx.Ends.of (kk4r_p0 t1 t2 t3 N M B k c o cut) ⟨?oo, ?rr⟩) (by kernel_rfl) rfl (gtL (by decide)) (by decide)
  case oo =>
    refine (okc ?_ (okc ?_ (okc ?_ (okc ?_ (okc ?_ okn)))))
    all_goals ((try simp (disch := omega) only [SS, h, ho]); first | done | omega | assumption | (simp (disch := omega) only [SS, h, ho] at *; first | done | omega | assumption) | (simp_all; done))
  case rr =>
    try simp (disch := omega) only [SS, h, ho]
    repeat' apply And.intro
    all_goals first | exact True.intro | with_reducible rfl | omega | (intros; first | exact True.intro | with_reducible rfl | omega | (simp_all; done)) | (simp_all; done) | rfl

theorem kk4l_p0 (t1 t2 t3 : List UInt8) (N M : Nat) (B : Ix → Int) (k c o : Int) (cut : Bool) :
    isEnd (evTill Tryd.prog sumsTLo 300 (99) 900 30 [.code (bodyOf Tryd.f30)] (envOf [.agg (.tc (.vi .i64 fun _ => k) (.tc (.vi .i64 fun _ => c) (.tc (.vi .i64 fun _ => o) (.tc (.vl 60 (fun _ => 0) 1 [] (fun _ => N)) (.tc (.vb fun _ => cut) .t0)))))] Tryd.f30.ntmps) (sentEnts 19 144 [(1, t1), (2, t2), (3, t3)] ++ rB 60 M B ++ ([])) ⟨[.s false, .s false, .s false, .s true, .s true, .f], 80⟩) (endP ([]) (.tup [(false, .vl0), (false, vErr 3)]) ([]) 700) =
    (OkL [(k == (1 : Int), false), (k == (2 : Int), false), (k == (3 : Int), false), (k == (4 : Int), true), (byN o && decide ((256 : Nat) < N), true)] ∧ (True ∧ (0 : Nat) = (0 : Nat) ∧ True) ∧ True) := by kernel_rfl

set_option maxHeartbeats 4000000 in
theorem kk4l (t1 t2 t3 : List UInt8) (N M : Nat) (B : Ix → Int) (k c o : Int) (cut : Bool) (h : k = 4) (ho : byN o = true) (hN : 256 < N)  :
    RunsTo Tryd.prog 30 [.code (bodyOf Tryd.f30)] (envOf [.agg (.tc (.vi .i64 fun _ => k) (.tc (.vi .i64 fun _ => c) (.tc (.vi .i64 fun _ => o) (.tc (.vl 60 (fun _ => 0) 1 [] (fun _ => N)) (.tc (.vb fun _ => cut) .t0)))))] Tryd.f30.ntmps) (Sx.look (sentEnts 19 144 [(1, t1), (2, t2), (3, t3)] ++ rB 60 M B ++ ([]))) 80 (.tup [(false, .vl0), (false, vErr 3)]) (Sx.look ([])) 700 := by
  refine runs_last baseTLo (Sx.Ends.of (kk4l_p0 t1 t2 t3 N M B k c o cut) ⟨?oo, ?rr⟩) (by kernel_rfl) rfl (gtL (by decide)) (by decide)
  case oo =>
    refine (okc ?_ (okc ?_ (okc ?_ (okc ?_ (okc ?_ okn)))))
    all_goals ((try simp (disch := omega) only [SS, h, ho]); first | done | omega | assumption | (simp (disch := omega) only [SS, h, ho] at *; first | done | omega | assumption) | (simp_all; done))
  case rr =>
    try simp (disch := omega) only [SS, h, ho]
    repeat' apply And.intro
    all_goals first | exact True.intro | with_reducible rfl | omega | (intros; first | exact True.intro | with_reducible rfl | omega | (simp_all; done)) | (simp_all; done) | rfl

theorem kk4c_p0 (t1 t2 t3 : List UInt8) (N M : Nat) (B : Ix → Int) (k c o : Int) (cut : Bool) :
    isEnd (evTill Tryd.prog sumsTOk 300 (99) 900 30 [.code (bodyOf Tryd.f30)] (envOf [.agg (.tc (.vi .i64 fun _ => k) (.tc (.vi .i64 fun _ => c) (.tc (.vi .i64 fun _ => o) (.tc (.vl 60 (fun _ => 0) 1 [] (fun _ => N)) (.tc (.vb fun _ => cut) .t0)))))] Tryd.f30.ntmps) (sentEnts 19 144 [(1, t1), (2, t2), (3, t3)] ++ rB 60 M B ++ ([])) ⟨[.s false, .s false, .s false, .s true, .s true, .t, .s true], 80⟩) (endP ([]) (.tup [(false, .vl0), (false, vErr 3)]) ([]) 700) =
    (OkL [(k == (1 : Int), false), (k == (2 : Int), false), (k == (3 : Int), false), (k == (4 : Int), true), (byN o && (decide (N ≤ (256 : Nat)) && (decide (N ≤ M) && bndB B N)), true), (cut, true)] ∧ (True ∧ (0 : Nat) = (0 : Nat) ∧ True) ∧ True) := by kernel_rfl

set_option maxHeartbeats 4000000 in
theorem kk4c (t1 t2 t3 : List UInt8) (N M : Nat) (B : Ix → Int) (k c o : Int) (cut : Bool) (h : k = 4) (ho : byN o = true) (hN : N ≤ 256) (hM : N ≤ M) (hB : bndB B N = true) (hc : cut = true)  :
    RunsTo Tryd.prog 30 [.code (bodyOf Tryd.f30)] (envOf [.agg (.tc (.vi .i64 fun _ => k) (.tc (.vi .i64 fun _ => c) (.tc (.vi .i64 fun _ => o) (.tc (.vl 60 (fun _ => 0) 1 [] (fun _ => N)) (.tc (.vb fun _ => cut) .t0)))))] Tryd.f30.ntmps) (Sx.look (sentEnts 19 144 [(1, t1), (2, t2), (3, t3)] ++ rB 60 M B ++ ([]))) 80 (.tup [(false, .vl0), (false, vErr 3)]) (Sx.look ([])) 700 := by
  refine runs_last baseTOk (Sx.Ends.of (kk4c_p0 t1 t2 t3 N M B k c o cut) ⟨?oo, ?rr⟩) (by kernel_rfl) rfl (gtL (by decide)) (by decide)
  case oo =>
    refine (okc ?_ (okc ?_ (okc ?_ (okc ?_ (okc ?_ (okc ?_ okn))))))
    all_goals ((try simp (disch := omega) only [SS, h, ho, hB, hc]); first | done | omega | assumption | (simp (disch := omega) only [SS, h, ho, hB, hc] at *; first | done | omega | assumption) | (simp_all; done))
  case rr =>
    try simp (disch := omega) only [SS, h, ho, hB, hc]
    repeat' apply And.intro
    all_goals first | exact True.intro | with_reducible rfl | omega | (intros; first | exact True.intro | with_reducible rfl | omega | (simp_all; done)) | (simp_all; done) | rfl

theorem kk4o_p0 (t1 t2 t3 : List UInt8) (N M : Nat) (B : Ix → Int) (k c o : Int) (cut : Bool) :
    isEnd (evTill Tryd.prog sumsTOk 300 (99) 900 30 [.code (bodyOf Tryd.f30)] (envOf [.agg (.tc (.vi .i64 fun _ => k) (.tc (.vi .i64 fun _ => c) (.tc (.vi .i64 fun _ => o) (.tc (.vl 60 (fun _ => 0) 1 [] (fun _ => N)) (.tc (.vb fun _ => cut) .t0)))))] Tryd.f30.ntmps) (sentEnts 19 144 [(1, t1), (2, t2), (3, t3)] ++ rB 60 M B ++ ([])) ⟨[.s false, .s false, .s false, .s true, .s true, .t, .s false], 80⟩) (endP ([((141 : Nat), Rn.to (142 : Nat))]) (.tup [(false, .vl 141 (fun _ => 0) 1 [] (fun _ => (subL o (dbs N B)).length)), (false, .ve0)]) (bW 141 (subL o (dbs N B))) 700) =
    (OkL [(k == (1 : Int), false), (k == (2 : Int), false), (k == (3 : Int), false), (k == (4 : Int), true), (byN o && (decide (N ≤ (256 : Nat)) && (decide (N ≤ M) && bndB B N)), true), (cut, false)] ∧ (((0 : Nat) = (0 : Nat) ∧ (subL o (dbs N B)).length = (subL o (dbs N B)).length) ∧ True ∧ True) ∧ (subL o (dbs N B)).length = (subL o (dbs N B)).length ∧ ∀ (i : Nat), i < (subL o (dbs N B)).length → (↑((subL o (dbs N B)).getD i (0 : UInt8)).toNat : Int) = (↑((subL o (dbs N B)).getD i (0 : UInt8)).toNat : Int)) := by kernel_rfl

set_option maxHeartbeats 4000000 in
theorem kk4o (t1 t2 t3 : List UInt8) (N M : Nat) (B : Ix → Int) (k c o : Int) (cut : Bool) (h : k = 4) (ho : byN o = true) (hN : N ≤ 256) (hM : N ≤ M) (hB : bndB B N = true) (hc : cut = false)  :
    RunsTo Tryd.prog 30 [.code (bodyOf Tryd.f30)] (envOf [.agg (.tc (.vi .i64 fun _ => k) (.tc (.vi .i64 fun _ => c) (.tc (.vi .i64 fun _ => o) (.tc (.vl 60 (fun _ => 0) 1 [] (fun _ => N)) (.tc (.vb fun _ => cut) .t0)))))] Tryd.f30.ntmps) (Sx.look (sentEnts 19 144 [(1, t1), (2, t2), (3, t3)] ++ rB 60 M B ++ ([]))) 80 (.tup [(false, .vl 141 (fun _ => 0) 1 [] (fun _ => (subL o (dbs N B)).length)), (false, .ve0)]) (Sx.look (bW 141 (subL o (dbs N B)))) 700 := by
  have hu : True := trivial
  have hv := hu
  refine runs_last baseTOk (Sx.Ends.of (kk4o_p0 t1 t2 t3 N M B k c o cut) ⟨?oo, ?rr⟩) (by kernel_rfl) rfl (gtL (by decide)) (by decide)
  case oo =>
    refine (okc ?_ (okc ?_ (okc ?_ (okc ?_ (okc ?_ (okc ?_ okn))))))
    all_goals first | omega | (simp (disch := omega) only [SS, h, ho, hB, hc]; first | done | omega | exact ⟨by omega, by omega, by omega, hB⟩) | (simp_all; done) | (simp_all; omega) | (simp [bndB, upd, List.range_succ]; omega)
  case rr =>
    try simp (disch := omega) only [SS, h, ho, hB, hc]
    repeat' apply And.intro
    all_goals first | exact True.intro | with_reducible rfl | omega | (intros; rfl) | (intro j hj; have : j = 0 ∨ j = 1 := (by simp at hj; omega); rcases this with rfl | rfl <;> first | rfl | exact hu.symm | exact hu) | (intro j hj; have : j = 0 ∨ j = 1 ∨ j = 2 := (by simp at hj; omega); rcases this with rfl | rfl | rfl <;> first | rfl | exact hu.symm | exact hv.symm | exact hu | exact hv) | (simp_all; done)

theorem kk5_p0 (t1 t2 t3 : List UInt8) (N M : Nat) (B : Ix → Int) (k c o : Int) (cut : Bool) :
    isEnd (evTill Tryd.prog sumsTOk 300 (99) 900 30 [.code (bodyOf Tryd.f30)] (envOf [.agg (.tc (.vi .i64 fun _ => k) (.tc (.vi .i64 fun _ => c) (.tc (.vi .i64 fun _ => o) (.tc (.vl 60 (fun _ => 0) 1 [] (fun _ => N)) (.tc (.vb fun _ => cut) .t0)))))] Tryd.f30.ntmps) (sentEnts 19 144 [(1, t1), (2, t2), (3, t3)] ++ rB 60 M B ++ ([])) ⟨[.s false, .s false, .s false, .s false], 80⟩) (endP ([]) (.tup [(false, .vl0), (false, vErr 1)]) ([]) 700) =
    (OkL [(k == (1 : Int), false), (k == (2 : Int), false), (k == (3 : Int), false), (k == (4 : Int), false)] ∧ (True ∧ (0 : Nat) = (0 : Nat) ∧ True) ∧ True) := by kernel_rfl

set_option maxHeartbeats 4000000 in
theorem kk5 (t1 t2 t3 : List UInt8) (N M : Nat) (B : Ix → Int) (k c o : Int) (cut : Bool) (h1 : k ≠ 1) (h2 : k ≠ 2) (h3 : k ≠ 3) (h4 : k ≠ 4)  :
    RunsTo Tryd.prog 30 [.code (bodyOf Tryd.f30)] (envOf [.agg (.tc (.vi .i64 fun _ => k) (.tc (.vi .i64 fun _ => c) (.tc (.vi .i64 fun _ => o) (.tc (.vl 60 (fun _ => 0) 1 [] (fun _ => N)) (.tc (.vb fun _ => cut) .t0)))))] Tryd.f30.ntmps) (Sx.look (sentEnts 19 144 [(1, t1), (2, t2), (3, t3)] ++ rB 60 M B ++ ([]))) 80 (.tup [(false, .vl0), (false, vErr 1)]) (Sx.look ([])) 700 := by
  refine runs_last baseTOk (Sx.Ends.of (kk5_p0 t1 t2 t3 N M B k c o cut) ⟨?oo, ?rr⟩) (by kernel_rfl) rfl (gtL (by decide)) (by decide)
  case oo =>
    refine (okc ?_ (okc ?_ (okc ?_ (okc ?_ okn))))
    all_goals ((try simp (disch := omega) only [SS]); first | done | omega | assumption | (simp (disch := omega) only [SS] at *; first | done | omega | assumption) | (simp_all; done))
  case rr =>
    try simp (disch := omega) only [SS]
    repeat' apply And.intro
    all_goals first | exact True.intro | with_reducible rfl | omega | (intros; first | exact True.intro | with_reducible rfl | omega | (simp_all; done)) | (simp_all; done) | rfl

theorem tkOk (t1 t2 t3 : List UInt8) (N M : Nat) (B : Ix → Int) (k c o : Int) (cut : Bool) (hM : N ≤ M) (hB : bndB B N = true) (hr : tkC k c o N B cut = 0) : RunsTo Tryd.prog 30 [.code (bodyOf Tryd.f30)] (envOf [.agg (.tc (.vi .i64 fun _ => k) (.tc (.vi .i64 fun _ => c) (.tc (.vi .i64 fun _ => o) (.tc (.vl 60 (fun _ => 0) 1 [] (fun _ => N)) (.tc (.vb fun _ => cut) .t0)))))] Tryd.f30.ntmps) (Sx.look (sentEnts 19 144 [(1, t1), (2, t2), (3, t3)] ++ rB 60 M B ++ ([]))) 80 (.tup [(false, .vl 141 (fun _ => 0) 1 [] (fun _ => (tkB k c o N B cut).length)), (false, .ve0)]) (Sx.look (bW 141 (tkB k c o N B cut))) 700 := by
  have hlen := bytesOf_len B [] 0 N
  unfold tkC tkR at hr
  unfold tkB tkR
  by_cases h1 : k = 1
  · rw [if_pos h1] at hr ⊢
    cases hc : byN c with
    | false => rw [hc, if_pos rfl] at hr; rw [if_pos rfl]; simp at hr
    | true => rw [hc, if_neg (by decide)] at hr; rw [if_neg (by decide)]; exact kk1o t1 t2 t3 N M B k c o cut h1 hc
  rw [if_neg h1] at hr ⊢
  by_cases h2 : k = 2
  · rw [if_pos h2] at hr ⊢
    unfold plR at hr ⊢
    by_cases hc : 241 ≤ c ∧ c ≤ 249
    · rw [if_pos hc] at hr ⊢; exact kk2o t1 t2 t3 N M B k c o cut h2 hc
    · rw [if_neg hc] at hr ⊢; simp at hr
  rw [if_neg h2] at hr ⊢
  by_cases h3 : k = 3
  · rw [if_pos h3] at hr ⊢
    unfold vbR at hr ⊢
    by_cases hc : 251 ≤ c ∧ c ≤ 254
    · rw [if_neg (fun e => e hc)] at hr ⊢
      cases ho : byN o with
      | false => rw [ho, if_pos rfl] at hr; rw [if_pos rfl]; simp at hr
      | true => rw [ho, if_neg (by decide)] at hr; rw [if_neg (by decide)]; exact kk3o t1 t2 t3 N M B k c o cut h3 hc ho
    · rw [if_pos hc] at hr ⊢; simp at hr
  rw [if_neg h3] at hr ⊢
  by_cases h4 : k = 4
  · rw [if_pos h4] at hr ⊢
    unfold sbR at hr ⊢
    cases ho : byN o with
    | false => rw [ho, if_pos rfl] at hr; rw [if_pos rfl]; simp at hr
    | true =>
      rw [ho, if_neg (by decide), hlen] at hr
      rw [if_neg (by decide), hlen]
      by_cases hN : 256 < N
      · rw [if_pos hN] at hr ⊢; simp at hr
      · rw [if_neg hN] at hr ⊢
        cases cut with
        | true => simp at hr
        | false => exact kk4o t1 t2 t3 N M B k c o false h4 ho (by omega) hM hB rfl
  rw [if_neg h4] at hr ⊢; simp at hr
theorem tkKi (t1 t2 t3 : List UInt8) (N M : Nat) (B : Ix → Int) (k c o : Int) (cut : Bool) (hM : N ≤ M) (hB : bndB B N = true) (hr : tkC k c o N B cut = 1) : RunsTo Tryd.prog 30 [.code (bodyOf Tryd.f30)] (envOf [.agg (.tc (.vi .i64 fun _ => k) (.tc (.vi .i64 fun _ => c) (.tc (.vi .i64 fun _ => o) (.tc (.vl 60 (fun _ => 0) 1 [] (fun _ => N)) (.tc (.vb fun _ => cut) .t0)))))] Tryd.f30.ntmps) (Sx.look (sentEnts 19 144 [(1, t1), (2, t2), (3, t3)] ++ rB 60 M B ++ ([]))) 80 (.tup [(false, .vl0), (false, vErr 1)]) (Sx.look ([])) 700 := by
  have hlen := bytesOf_len B [] 0 N
  unfold tkC tkR at hr
  skip
  by_cases h1 : k = 1
  · rw [if_pos h1] at hr
    cases hc : byN c with
    | false => rw [hc, if_pos rfl] at hr; simp at hr
    | true => rw [hc, if_neg (by decide)] at hr; simp at hr
  rw [if_neg h1] at hr
  by_cases h2 : k = 2
  · rw [if_pos h2] at hr
    unfold plR at hr
    by_cases hc : 241 ≤ c ∧ c ≤ 249
    · rw [if_pos hc] at hr; simp at hr
    · rw [if_neg hc] at hr; exact kk2k t1 t2 t3 N M B k c o cut h2 hc
  rw [if_neg h2] at hr
  by_cases h3 : k = 3
  · rw [if_pos h3] at hr
    unfold vbR at hr
    by_cases hc : 251 ≤ c ∧ c ≤ 254
    · rw [if_neg (fun e => e hc)] at hr
      cases ho : byN o with
      | false => rw [ho, if_pos rfl] at hr; simp at hr
      | true => rw [ho, if_neg (by decide)] at hr; simp at hr
    · rw [if_pos hc] at hr; exact kk3k t1 t2 t3 N M B k c o cut h3 hc
  rw [if_neg h3] at hr
  by_cases h4 : k = 4
  · rw [if_pos h4] at hr
    unfold sbR at hr
    cases ho : byN o with
    | false => rw [ho, if_pos rfl] at hr; simp at hr
    | true =>
      rw [ho, if_neg (by decide), hlen] at hr
      by_cases hN : 256 < N
      · rw [if_pos hN] at hr; simp at hr
      · rw [if_neg hN] at hr
        cases cut with
        | true => simp at hr
        | false => simp at hr
  rw [if_neg h4] at hr; exact kk5 t1 t2 t3 N M B k c o cut h1 h2 h3 h4
theorem tkRa (t1 t2 t3 : List UInt8) (N M : Nat) (B : Ix → Int) (k c o : Int) (cut : Bool) (hM : N ≤ M) (hB : bndB B N = true) (hr : tkC k c o N B cut = 2) : RunsTo Tryd.prog 30 [.code (bodyOf Tryd.f30)] (envOf [.agg (.tc (.vi .i64 fun _ => k) (.tc (.vi .i64 fun _ => c) (.tc (.vi .i64 fun _ => o) (.tc (.vl 60 (fun _ => 0) 1 [] (fun _ => N)) (.tc (.vb fun _ => cut) .t0)))))] Tryd.f30.ntmps) (Sx.look (sentEnts 19 144 [(1, t1), (2, t2), (3, t3)] ++ rB 60 M B ++ ([]))) 80 (.tup [(false, .vl0), (false, vErr 2)]) (Sx.look ([])) 700 := by
  have hlen := bytesOf_len B [] 0 N
  unfold tkC tkR at hr
  skip
  by_cases h1 : k = 1
  · rw [if_pos h1] at hr
    cases hc : byN c with
    | false => rw [hc, if_pos rfl] at hr; exact kk1r t1 t2 t3 N M B k c o cut h1 hc
    | true => rw [hc, if_neg (by decide)] at hr; simp at hr
  rw [if_neg h1] at hr
  by_cases h2 : k = 2
  · rw [if_pos h2] at hr
    unfold plR at hr
    by_cases hc : 241 ≤ c ∧ c ≤ 249
    · rw [if_pos hc] at hr; simp at hr
    · rw [if_neg hc] at hr; simp at hr
  rw [if_neg h2] at hr
  by_cases h3 : k = 3
  · rw [if_pos h3] at hr
    unfold vbR at hr
    by_cases hc : 251 ≤ c ∧ c ≤ 254
    · rw [if_neg (fun e => e hc)] at hr
      cases ho : byN o with
      | false => rw [ho, if_pos rfl] at hr; exact kk3r t1 t2 t3 N M B k c o cut h3 hc ho
      | true => rw [ho, if_neg (by decide)] at hr; simp at hr
    · rw [if_pos hc] at hr; simp at hr
  rw [if_neg h3] at hr
  by_cases h4 : k = 4
  · rw [if_pos h4] at hr
    unfold sbR at hr
    cases ho : byN o with
    | false => rw [ho, if_pos rfl] at hr; exact kk4r t1 t2 t3 N M B k c o cut h4 ho
    | true =>
      rw [ho, if_neg (by decide), hlen] at hr
      by_cases hN : 256 < N
      · rw [if_pos hN] at hr; simp at hr
      · rw [if_neg hN] at hr
        cases cut with
        | true => simp at hr
        | false => simp at hr
  rw [if_neg h4] at hr; simp at hr
theorem tkLo (t1 t2 t3 : List UInt8) (N M : Nat) (B : Ix → Int) (k c o : Int) (cut : Bool) (hM : N ≤ M) (hB : bndB B N = true) (hr : tkC k c o N B cut = 3) : RunsTo Tryd.prog 30 [.code (bodyOf Tryd.f30)] (envOf [.agg (.tc (.vi .i64 fun _ => k) (.tc (.vi .i64 fun _ => c) (.tc (.vi .i64 fun _ => o) (.tc (.vl 60 (fun _ => 0) 1 [] (fun _ => N)) (.tc (.vb fun _ => cut) .t0)))))] Tryd.f30.ntmps) (Sx.look (sentEnts 19 144 [(1, t1), (2, t2), (3, t3)] ++ rB 60 M B ++ ([]))) 80 (.tup [(false, .vl0), (false, vErr 3)]) (Sx.look ([])) 700 := by
  have hlen := bytesOf_len B [] 0 N
  unfold tkC tkR at hr
  skip
  by_cases h1 : k = 1
  · rw [if_pos h1] at hr
    cases hc : byN c with
    | false => rw [hc, if_pos rfl] at hr; simp at hr
    | true => rw [hc, if_neg (by decide)] at hr; simp at hr
  rw [if_neg h1] at hr
  by_cases h2 : k = 2
  · rw [if_pos h2] at hr
    unfold plR at hr
    by_cases hc : 241 ≤ c ∧ c ≤ 249
    · rw [if_pos hc] at hr; simp at hr
    · rw [if_neg hc] at hr; simp at hr
  rw [if_neg h2] at hr
  by_cases h3 : k = 3
  · rw [if_pos h3] at hr
    unfold vbR at hr
    by_cases hc : 251 ≤ c ∧ c ≤ 254
    · rw [if_neg (fun e => e hc)] at hr
      cases ho : byN o with
      | false => rw [ho, if_pos rfl] at hr; simp at hr
      | true => rw [ho, if_neg (by decide)] at hr; simp at hr
    · rw [if_pos hc] at hr; simp at hr
  rw [if_neg h3] at hr
  by_cases h4 : k = 4
  · rw [if_pos h4] at hr
    unfold sbR at hr
    cases ho : byN o with
    | false => rw [ho, if_pos rfl] at hr; simp at hr
    | true =>
      rw [ho, if_neg (by decide), hlen] at hr
      by_cases hN : 256 < N
      · rw [if_pos hN] at hr; exact kk4l t1 t2 t3 N M B k c o cut h4 ho hN
      · rw [if_neg hN] at hr
        cases cut with
        | true => exact kk4c t1 t2 t3 N M B k c o true h4 ho (by omega) hM hB rfl
        | false => simp at hr
  rw [if_neg h4] at hr; simp at hr
def tkOkP : PC := { args := [.agg (.tc (.vi .i64 2) (.tc (.vi .i64 3) (.tc (.vi .i64 4) (.tc (.vl 60 1 0) (.tc (.vb 5) .t0)))))], heap := [⟨60, false, 1, .ta 9 (.vi .u8 1)⟩], gs := [1, 2, 3], G := 19, tp := 144, n := 80, n' := 700, cond := fun e => decide (eN e 0 ≤ eN e 9) && (bndB (eI e 1) (eN e 0) && decide (tkC (eI e 2 []) (eI e 3 []) (eI e 4 []) (eN e 0) (eI e 1) (eB e 5 []) = 0)), v := fun e => .tup [(false, .vl 141 (fun _ => 0) 1 [] (fun _ => (tkB (eI e 2 []) (eI e 3 []) (eI e 4 []) (eN e 0) (eI e 1) (eB e 5 [])).length)), (false, .ve0)], post := fun e => bW 141 (tkB (eI e 2 []) (eI e 3 []) (eI e 4 []) (eN e 0) (eI e 1) (eB e 5 [])) }
theorem tkOkP_pc : PC.Runs Tryd.prog 30 Tryd.f30 (bodyOf Tryd.f30) tkOkP := ⟨Tryd.func30, by kernel_rfl, (fun g hg => by first | (cases hg; done) | (revert g; show ∀ g ∈ ([1, 2, 3] : List Nat), g < 19; decide)), fun e H hc => by
  have hc : (decide (eN e 0 ≤ eN e 9) && (bndB (eI e 1) (eN e 0) && decide (tkC (eI e 2 []) (eI e 3 []) (eI e 4 []) (eN e 0) (eI e 1) (eB e 5 []) = 0))) = true := hc
  try simp only [Bool.and_eq_true, decide_eq_true_eq, Nat.beq_eq] at hc
  exact tkOk (textAt2 H (19 + 1)) (textAt2 H (19 + 2)) (textAt2 H (19 + 3)) (eN e 0) (eN e 9) (eI e 1) (eI e 2 []) (eI e 3 []) (eI e 4 []) (eB e 5 []) hc.1 hc.2.1 hc.2.2⟩
def tkKiP : PC := { args := [.agg (.tc (.vi .i64 2) (.tc (.vi .i64 3) (.tc (.vi .i64 4) (.tc (.vl 60 1 0) (.tc (.vb 5) .t0)))))], heap := [⟨60, false, 1, .ta 9 (.vi .u8 1)⟩], gs := [1, 2, 3], G := 19, tp := 144, n := 80, n' := 700, cond := fun e => decide (eN e 0 ≤ eN e 9) && (bndB (eI e 1) (eN e 0) && decide (tkC (eI e 2 []) (eI e 3 []) (eI e 4 []) (eN e 0) (eI e 1) (eB e 5 []) = 1)), v := fun e => .tup [(false, .vl0), (false, vErr 1)], post := fun e => [] }
theorem tkKiP_pc : PC.Runs Tryd.prog 30 Tryd.f30 (bodyOf Tryd.f30) tkKiP := ⟨Tryd.func30, by kernel_rfl, (fun g hg => by first | (cases hg; done) | (revert g; show ∀ g ∈ ([1, 2, 3] : List Nat), g < 19; decide)), fun e H hc => by
  have hc : (decide (eN e 0 ≤ eN e 9) && (bndB (eI e 1) (eN e 0) && decide (tkC (eI e 2 []) (eI e 3 []) (eI e 4 []) (eN e 0) (eI e 1) (eB e 5 []) = 1))) = true := hc
  try simp only [Bool.and_eq_true, decide_eq_true_eq, Nat.beq_eq] at hc
  exact tkKi (textAt2 H (19 + 1)) (textAt2 H (19 + 2)) (textAt2 H (19 + 3)) (eN e 0) (eN e 9) (eI e 1) (eI e 2 []) (eI e 3 []) (eI e 4 []) (eB e 5 []) hc.1 hc.2.1 hc.2.2⟩
def tkRaP : PC := { args := [.agg (.tc (.vi .i64 2) (.tc (.vi .i64 3) (.tc (.vi .i64 4) (.tc (.vl 60 1 0) (.tc (.vb 5) .t0)))))], heap := [⟨60, false, 1, .ta 9 (.vi .u8 1)⟩], gs := [1, 2, 3], G := 19, tp := 144, n := 80, n' := 700, cond := fun e => decide (eN e 0 ≤ eN e 9) && (bndB (eI e 1) (eN e 0) && decide (tkC (eI e 2 []) (eI e 3 []) (eI e 4 []) (eN e 0) (eI e 1) (eB e 5 []) = 2)), v := fun e => .tup [(false, .vl0), (false, vErr 2)], post := fun e => [] }
theorem tkRaP_pc : PC.Runs Tryd.prog 30 Tryd.f30 (bodyOf Tryd.f30) tkRaP := ⟨Tryd.func30, by kernel_rfl, (fun g hg => by first | (cases hg; done) | (revert g; show ∀ g ∈ ([1, 2, 3] : List Nat), g < 19; decide)), fun e H hc => by
  have hc : (decide (eN e 0 ≤ eN e 9) && (bndB (eI e 1) (eN e 0) && decide (tkC (eI e 2 []) (eI e 3 []) (eI e 4 []) (eN e 0) (eI e 1) (eB e 5 []) = 2))) = true := hc
  try simp only [Bool.and_eq_true, decide_eq_true_eq, Nat.beq_eq] at hc
  exact tkRa (textAt2 H (19 + 1)) (textAt2 H (19 + 2)) (textAt2 H (19 + 3)) (eN e 0) (eN e 9) (eI e 1) (eI e 2 []) (eI e 3 []) (eI e 4 []) (eB e 5 []) hc.1 hc.2.1 hc.2.2⟩
def tkLoP : PC := { args := [.agg (.tc (.vi .i64 2) (.tc (.vi .i64 3) (.tc (.vi .i64 4) (.tc (.vl 60 1 0) (.tc (.vb 5) .t0)))))], heap := [⟨60, false, 1, .ta 9 (.vi .u8 1)⟩], gs := [1, 2, 3], G := 19, tp := 144, n := 80, n' := 700, cond := fun e => decide (eN e 0 ≤ eN e 9) && (bndB (eI e 1) (eN e 0) && decide (tkC (eI e 2 []) (eI e 3 []) (eI e 4 []) (eN e 0) (eI e 1) (eB e 5 []) = 3)), v := fun e => .tup [(false, .vl0), (false, vErr 3)], post := fun e => [] }
theorem tkLoP_pc : PC.Runs Tryd.prog 30 Tryd.f30 (bodyOf Tryd.f30) tkLoP := ⟨Tryd.func30, by kernel_rfl, (fun g hg => by first | (cases hg; done) | (revert g; show ∀ g ∈ ([1, 2, 3] : List Nat), g < 19; decide)), fun e H hc => by
  have hc : (decide (eN e 0 ≤ eN e 9) && (bndB (eI e 1) (eN e 0) && decide (tkC (eI e 2 []) (eI e 3 []) (eI e 4 []) (eN e 0) (eI e 1) (eB e 5 []) = 3))) = true := hc
  try simp only [Bool.and_eq_true, decide_eq_true_eq, Nat.beq_eq] at hc
  exact tkLo (textAt2 H (19 + 1)) (textAt2 H (19 + 2)) (textAt2 H (19 + 3)) (eN e 0) (eN e 9) (eI e 1) (eI e 2 []) (eI e 3 []) (eI e 4 []) (eB e 5 []) hc.1 hc.2.1 hc.2.2⟩
end Go.Proofs.YtcphocfnhekdaaaDoor

