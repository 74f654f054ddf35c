/- Tables: is all calm? -/
import Derived.Test.YtgbgfekfcjphnaaDoorThC
set_option linter.unusedSimpArgs false
set_option linter.unusedVariables false
set_option maxRecDepth 100000
namespace Go.Proofs.YtgbgfekfcjphnaaDoor
open Go.Sx


def cal (k : Int) (o : Bool) : Bool := (decide (k = 0) || decide (k = 1)) && !o
def rowC (K : Ix → Int) (O : Ix → Bool) (p : Nat) : Nat → Nat → Bool
  | 0, _ => true
  | k + 1, n => cal (K [p, n]) (O [p, n]) && rowC K O p k (n + 1)
def calmAll (K : Ix → Int) (O : Ix → Bool) : Bool := rowC K O 0 256 0 && rowC K O 1 256 0
def rowT (K : Ix → Int) (O A : Ix → Bool) (p : Nat) : Tr := .ta 256 (plT (fun js => K (p :: js)) (fun js => O (p :: js)) (fun js => A (p :: js)))
def clE (K : Ix → Int) (O A : Ix → Bool) (p n : Nat) : List (Nat × SV) := [(10, .agg (.ta 2 (.ta 256 (plT K O A)))), (11, vN p), (14, .agg (rowT K O A p)), (15, vN n)]

theorem cl0_p0 (K : Ix → Int) (O A : Ix → Bool) (h a s : Int) :
    isMore (evTill Tryd.prog [] 100 (behind Tryd.f30 1) 900 30 [.code (bodyOf Tryd.f30)] (envOf [vP 60] Tryd.f30.ntmps) ([] ++ tabE 60 K O A h a s) ⟨[.t, .t], 80⟩) (moreP (headOf Tryd.f30 1) ([]) Tryd.f30.ntmps (clE K O A 0 0) (tabE 60 K O A h a s) 120) =
    (OkL [] ∧ headOf Tryd.f30 (1 : Nat) = headOf Tryd.f30 (1 : Nat) ∧ (((2 : Nat) = (2 : Nat) ∧ (256 : Nat) = (256 : Nat) ∧ ((∀ (i : Nat), i < (2 : Nat) → ∀ (i_1 : Nat), i_1 < (256 : Nat) → K [i, i_1] = K [i, i_1]) ∧ ∀ (i : Nat), i < (2 : Nat) → ∀ (i_1 : Nat), i_1 < (256 : Nat) → O [i, i_1] = O [i, i_1]) ∧ ∀ (i : Nat), i < (2 : Nat) → ∀ (i_1 : Nat), i_1 < (256 : Nat) → A [i, i_1] = A [i, i_1]) ∧ (↑(0 : Nat) : Int) = (0 : Int) ∧ ((256 : Nat) = (256 : Nat) ∧ ((∀ (i : Nat), i < (256 : Nat) → K [(0 : Nat), i] = K [(0 : Nat), i]) ∧ ∀ (i : Nat), i < (256 : Nat) → O [(0 : Nat), i] = O [(0 : Nat), i]) ∧ ∀ (i : Nat), i < (256 : Nat) → A [(0 : Nat), i] = A [(0 : Nat), i]) ∧ (↑(0 : Nat) : Int) = (0 : Int)) ∧ ((2 : Nat) = (2 : Nat) ∧ (256 : Nat) = (256 : Nat) ∧ ((∀ (i : Nat), i < (2 : Nat) → ∀ (i_1 : Nat), i_1 < (256 : Nat) → K [i, i_1] = K [i, i_1]) ∧ ∀ (i : Nat), i < (2 : Nat) → ∀ (i_1 : Nat), i_1 < (256 : Nat) → O [i, i_1] = O [i, i_1]) ∧ ∀ (i : Nat), i < (2 : Nat) → ∀ (i_1 : Nat), i_1 < (256 : Nat) → A [i, i_1] = A [i, i_1]) ∧ h = h ∧ a = a ∧ s = s) := by kernel_rfl

set_option maxHeartbeats 4000000 in
theorem cl0 (K : Ix → Int) (O A : Ix → Bool) (h a s : Int) (v : SV) (L' : HF) (next : RunsTo Tryd.prog 30 (headOf Tryd.f30 1) (envAt Tryd.f30.ntmps (clE K O A 0 0)) (Sx.look ([] ++ tabE 60 K O A h a s)) 80 v L' 120) :
    RunsTo Tryd.prog 30 [.code (bodyOf Tryd.f30)] (envOf [vP 60] Tryd.f30.ntmps) (Sx.look ([] ++ tabE 60 K O A h a s)) 80 v L' 120 := by
  refine runs_more baseO (More.of (cl0_p0 K O A h a s) ⟨okn, rfl, ?_⟩) (by kernel_rfl) (by kernel_rfl) rfl (gtL (by decide)) (by decide) next
  clear next
  simp

theorem clN0_p0 (K : Ix → Int) (O A : Ix → Bool) (h a s : Int) (n : Nat) :
    isMore (evTill Tryd.prog [] 100 (behind Tryd.f30 1) 900 30 (headOf Tryd.f30 1) (envAt Tryd.f30.ntmps (clE K O A 0 n)) ([] ++ tabE 60 K O A h a s) ⟨[.s true, .s true, .s false, .s false], 90⟩) (moreP (headOf Tryd.f30 1) ([]) Tryd.f30.ntmps (clE K O A 0 (n + 1)) (tabE 60 K O A h a s) 120) =
    (OkL [(decide ((↑n : Int) < (256 : Int)), true), (decide ((0 : Int) ≤ (↑n : Int) ∧ (↑n : Int) < (↑(256 : Nat) : Int)), true), (K [(0 : Nat), (↑n : Int).toNat] == (1 : Int) && (O [(0 : Nat), (↑n : Int).toNat] == false && true), false), (!(K [(0 : Nat), (↑n : Int).toNat] == (0 : Int) && (O [(0 : Nat), (↑n : Int).toNat] == false && true)), false)] ∧ headOf Tryd.f30 (1 : Nat) = headOf Tryd.f30 (1 : Nat) ∧ (((2 : Nat) = (2 : Nat) ∧ (256 : Nat) = (256 : Nat) ∧ ((∀ (i : Nat), i < (2 : Nat) → ∀ (i_1 : Nat), i_1 < (256 : Nat) → K [i, i_1] = K [i, i_1]) ∧ ∀ (i : Nat), i < (2 : Nat) → ∀ (i_1 : Nat), i_1 < (256 : Nat) → O [i, i_1] = O [i, i_1]) ∧ ∀ (i : Nat), i < (2 : Nat) → ∀ (i_1 : Nat), i_1 < (256 : Nat) → A [i, i_1] = A [i, i_1]) ∧ (↑(0 : Nat) : Int) = (↑(0 : Nat) : Int) ∧ ((256 : Nat) = (256 : Nat) ∧ ((∀ (i : Nat), i < (256 : Nat) → K [(0 : Nat), i] = K [(0 : Nat), i]) ∧ ∀ (i : Nat), i < (256 : Nat) → O [(0 : Nat), i] = O [(0 : Nat), i]) ∧ ∀ (i : Nat), i < (256 : Nat) → A [(0 : Nat), i] = A [(0 : Nat), i]) ∧ (↑(n + (1 : Nat)) : Int) = IntKind.i64.wrap ((↑n : Int) + (1 : Int))) ∧ ((2 : Nat) = (2 : Nat) ∧ (256 : Nat) = (256 : Nat) ∧ ((∀ (i : Nat), i < (2 : Nat) → ∀ (i_1 : Nat), i_1 < (256 : Nat) → K [i, i_1] = K [i, i_1]) ∧ ∀ (i : Nat), i < (2 : Nat) → ∀ (i_1 : Nat), i_1 < (256 : Nat) → O [i, i_1] = O [i, i_1]) ∧ ∀ (i : Nat), i < (2 : Nat) → ∀ (i_1 : Nat), i_1 < (256 : Nat) → A [i, i_1] = A [i, i_1]) ∧ h = h ∧ a = a ∧ s = s) := by kernel_rfl
theorem clN0_p1 (K : Ix → Int) (O A : Ix → Bool) (h a s : Int) (n : Nat) :
    isMore (evTill Tryd.prog [] 100 (behind Tryd.f30 1) 900 30 (headOf Tryd.f30 1) (envAt Tryd.f30.ntmps (clE K O A 0 n)) ([] ++ tabE 60 K O A h a s) ⟨[.s true, .s true, .s true, .f], 90⟩) (moreP (headOf Tryd.f30 1) ([]) Tryd.f30.ntmps (clE K O A 0 (n + 1)) (tabE 60 K O A h a s) 120) =
    (OkL [(decide ((↑n : Int) < (256 : Int)), true), (decide ((0 : Int) ≤ (↑n : Int) ∧ (↑n : Int) < (↑(256 : Nat) : Int)), true), (K [(0 : Nat), (↑n : Int).toNat] == (1 : Int) && (O [(0 : Nat), (↑n : Int).toNat] == false && true), true)] ∧ headOf Tryd.f30 (1 : Nat) = headOf Tryd.f30 (1 : Nat) ∧ (((2 : Nat) = (2 : Nat) ∧ (256 : Nat) = (256 : Nat) ∧ ((∀ (i : Nat), i < (2 : Nat) → ∀ (i_1 : Nat), i_1 < (256 : Nat) → K [i, i_1] = K [i, i_1]) ∧ ∀ (i : Nat), i < (2 : Nat) → ∀ (i_1 : Nat), i_1 < (256 : Nat) → O [i, i_1] = O [i, i_1]) ∧ ∀ (i : Nat), i < (2 : Nat) → ∀ (i_1 : Nat), i_1 < (256 : Nat) → A [i, i_1] = A [i, i_1]) ∧ (↑(0 : Nat) : Int) = (↑(0 : Nat) : Int) ∧ ((256 : Nat) = (256 : Nat) ∧ ((∀ (i : Nat), i < (256 : Nat) → K [(0 : Nat), i] = K [(0 : Nat), i]) ∧ ∀ (i : Nat), i < (256 : Nat) → O [(0 : Nat), i] = O [(0 : Nat), i]) ∧ ∀ (i : Nat), i < (256 : Nat) → A [(0 : Nat), i] = A [(0 : Nat), i]) ∧ (↑(n + (1 : Nat)) : Int) = IntKind.i64.wrap ((↑n : Int) + (1 : Int))) ∧ ((2 : Nat) = (2 : Nat) ∧ (256 : Nat) = (256 : Nat) ∧ ((∀ (i : Nat), i < (2 : Nat) → ∀ (i_1 : Nat), i_1 < (256 : Nat) → K [i, i_1] = K [i, i_1]) ∧ ∀ (i : Nat), i < (2 : Nat) → ∀ (i_1 : Nat), i_1 < (256 : Nat) → O [i, i_1] = O [i, i_1]) ∧ ∀ (i : Nat), i < (2 : Nat) → ∀ (i_1 : Nat), i_1 < (256 : Nat) → A [i, i_1] = A [i, i_1]) ∧ h = h ∧ a = a ∧ s = s) := by kernel_rfl

set_option maxHeartbeats 4000000 in
theorem clN0 (K : Ix → Int) (O A : Ix → Bool) (h a s : Int) (n : Nat) (hn : n < 256) (hc : cal (K [0, n]) (O [0, n]) = true) (v : SV) (L' : HF) (next : RunsTo Tryd.prog 30 (headOf Tryd.f30 1) (envAt Tryd.f30.ntmps (clE K O A 0 (n + 1))) (Sx.look ([] ++ tabE 60 K O A h a s)) 80 v L' 120) :
    RunsTo Tryd.prog 30 (headOf Tryd.f30 1) (envAt Tryd.f30.ntmps (clE K O A 0 n)) (Sx.look ([] ++ tabE 60 K O A h a s)) 80 v L' 120 := by
  have gg0 : (decide ((↑n : Int) < (256 : Int))) = true := by clear next; first | (simp (disch := omega) only [SS] at *; omega) | (simp (disch := omega) only [SS, cal] at *; grind)
  have gg1 : (decide ((0 : Int) ≤ (↑n : Int) ∧ (↑n : Int) < (↑(256 : Nat) : Int))) = true := by clear next; first | (simp (disch := omega) only [SS] at *; omega) | (simp (disch := omega) only [SS, cal] at *; grind)
  refine bcase (c := (K [(0 : Nat), (↑n : Int).toNat] == (1 : Int) && (O [(0 : Nat), (↑n : Int).toNat] == false && true))) (fun gg2 => ?_) (fun gg2 => ?_)
  · have gg3 : (!(K [(0 : Nat), (↑n : Int).toNat] == (0 : Int) && (O [(0 : Nat), (↑n : Int).toNat] == false && true))) = false := by clear next; first | (simp (disch := omega) only [SS] at *; omega) | (simp (disch := omega) only [SS, cal] at *; grind)
    refine runs_more baseO (More.of (clN0_p0 K O A h a s n) ⟨(okc gg0 (okc gg1 (okc gg2 (okc gg3 okn)))), rfl, ?_⟩) (by kernel_rfl) (by kernel_rfl) rfl (gtL (by decide)) (by decide) next
    clear next
    have hw : IntKind.i64.wrap ((n : Int) + 1) = ((n + 1 : Nat) : Int) := by rw [wr64 (by omega)]; rfl
    simp [hw]
    try omega
  · refine runs_more baseO (More.of (clN0_p1 K O A h a s n) ⟨(okc gg0 (okc gg1 (okc gg2 okn))), rfl, ?_⟩) (by kernel_rfl) (by kernel_rfl) rfl (gtL (by decide)) (by decide) next
    clear next
    have hw : IntKind.i64.wrap ((n : Int) + 1) = ((n + 1 : Nat) : Int) := by rw [wr64 (by omega)]; rfl
    simp [hw]
    try omega

theorem clB0_p0 (K : Ix → Int) (O A : Ix → Bool) (h a s : Int) (n : Nat) :
    isEnd (evTill Tryd.prog [] 100 (behind Tryd.f30 1) 900 30 (headOf Tryd.f30 1) (envAt Tryd.f30.ntmps (clE K O A 0 n)) ([] ++ tabE 60 K O A h a s) ⟨[.s true, .s true, .s false, .s true], 90⟩) (endP ([]) (.v (.vb fun _ => false)) (tabE 60 K O A h a s) 120) =
    (OkL [(decide ((↑n : Int) < (256 : Int)), true), (decide ((0 : Int) ≤ (↑n : Int) ∧ (↑n : Int) < (↑(256 : Nat) : Int)), true), (K [(0 : Nat), (↑n : Int).toNat] == (1 : Int) && (O [(0 : Nat), (↑n : Int).toNat] == false && true), false), (!(K [(0 : Nat), (↑n : Int).toNat] == (0 : Int) && (O [(0 : Nat), (↑n : Int).toNat] == false && true)), true)] ∧ false = false ∧ ((2 : Nat) = (2 : Nat) ∧ (256 : Nat) = (256 : Nat) ∧ ((∀ (i : Nat), i < (2 : Nat) → ∀ (i_1 : Nat), i_1 < (256 : Nat) → K [i, i_1] = K [i, i_1]) ∧ ∀ (i : Nat), i < (2 : Nat) → ∀ (i_1 : Nat), i_1 < (256 : Nat) → O [i, i_1] = O [i, i_1]) ∧ ∀ (i : Nat), i < (2 : Nat) → ∀ (i_1 : Nat), i_1 < (256 : Nat) → A [i, i_1] = A [i, i_1]) ∧ h = h ∧ a = a ∧ s = s) := by kernel_rfl

set_option maxHeartbeats 4000000 in
theorem clB0 (K : Ix → Int) (O A : Ix → Bool) (h a s : Int) (n : Nat) (hn : n < 256) (hc : cal (K [0, n]) (O [0, n]) = false) :
    RunsTo Tryd.prog 30 (headOf Tryd.f30 1) (envAt Tryd.f30.ntmps (clE K O A 0 n)) (Sx.look ([] ++ tabE 60 K O A h a s)) 80 (.v (.vb fun _ => false)) (Sx.look (tabE 60 K O A h a s)) 120 := by
  have gg0 : (decide ((↑n : Int) < (256 : Int))) = true := by first | (simp (disch := omega) only [SS] at *; omega) | (simp (disch := omega) only [SS, cal] at *; grind)
  have gg1 : (decide ((0 : Int) ≤ (↑n : Int) ∧ (↑n : Int) < (↑(256 : Nat) : Int))) = true := by first | (simp (disch := omega) only [SS] at *; omega) | (simp (disch := omega) only [SS, cal] at *; grind)
  have gg2 : (K [(0 : Nat), (↑n : Int).toNat] == (1 : Int) && (O [(0 : Nat), (↑n : Int).toNat] == false && true)) = false := by first | (simp (disch := omega) only [SS] at *; omega) | (simp (disch := omega) only [SS, cal] at *; grind)
  have gg3 : (!(K [(0 : Nat), (↑n : Int).toNat] == (0 : Int) && (O [(0 : Nat), (↑n : Int).toNat] == false && true))) = true := by first | (simp (disch := omega) only [SS] at *; omega) | (simp (disch := omega) only [SS, cal] at *; grind)
  refine runs_last baseO (Sx.Ends.of (clB0_p0 K O A h a s n) ⟨(okc gg0 (okc gg1 (okc gg2 (okc gg3 okn)))), ?_⟩) (by kernel_rfl) rfl (gtL (by decide)) (by decide)
  simp

theorem clN1_p0 (K : Ix → Int) (O A : Ix → Bool) (h a s : Int) (n : Nat) :
    isMore (evTill Tryd.prog [] 100 (behind Tryd.f30 1) 900 30 (headOf Tryd.f30 1) (envAt Tryd.f30.ntmps (clE K O A 1 n)) ([] ++ tabE 60 K O A h a s) ⟨[.s true, .s true, .s false, .s false], 90⟩) (moreP (headOf Tryd.f30 1) ([]) Tryd.f30.ntmps (clE K O A 1 (n + 1)) (tabE 60 K O A h a s) 120) =
    (OkL [(decide ((↑n : Int) < (256 : Int)), true), (decide ((0 : Int) ≤ (↑n : Int) ∧ (↑n : Int) < (↑(256 : Nat) : Int)), true), (K [(1 : Nat), (↑n : Int).toNat] == (1 : Int) && (O [(1 : Nat), (↑n : Int).toNat] == false && true), false), (!(K [(1 : Nat), (↑n : Int).toNat] == (0 : Int) && (O [(1 : Nat), (↑n : Int).toNat] == false && true)), false)] ∧ headOf Tryd.f30 (1 : Nat) = headOf Tryd.f30 (1 : Nat) ∧ (((2 : Nat) = (2 : Nat) ∧ (256 : Nat) = (256 : Nat) ∧ ((∀ (i : Nat), i < (2 : Nat) → ∀ (i_1 : Nat), i_1 < (256 : Nat) → K [i, i_1] = K [i, i_1]) ∧ ∀ (i : Nat), i < (2 : Nat) → ∀ (i_1 : Nat), i_1 < (256 : Nat) → O [i, i_1] = O [i, i_1]) ∧ ∀ (i : Nat), i < (2 : Nat) → ∀ (i_1 : Nat), i_1 < (256 : Nat) → A [i, i_1] = A [i, i_1]) ∧ (↑(1 : Nat) : Int) = (↑(1 : Nat) : Int) ∧ ((256 : Nat) = (256 : Nat) ∧ ((∀ (i : Nat), i < (256 : Nat) → K [(1 : Nat), i] = K [(1 : Nat), i]) ∧ ∀ (i : Nat), i < (256 : Nat) → O [(1 : Nat), i] = O [(1 : Nat), i]) ∧ ∀ (i : Nat), i < (256 : Nat) → A [(1 : Nat), i] = A [(1 : Nat), i]) ∧ (↑(n + (1 : Nat)) : Int) = IntKind.i64.wrap ((↑n : Int) + (1 : Int))) ∧ ((2 : Nat) = (2 : Nat) ∧ (256 : Nat) = (256 : Nat) ∧ ((∀ (i : Nat), i < (2 : Nat) → ∀ (i_1 : Nat), i_1 < (256 : Nat) → K [i, i_1] = K [i, i_1]) ∧ ∀ (i : Nat), i < (2 : Nat) → ∀ (i_1 : Nat), i_1 < (256 : Nat) → O [i, i_1] = O [i, i_1]) ∧ ∀ (i : Nat), i < (2 : Nat) → ∀ (i_1 : Nat), i_1 < (256 : Nat) → A [i, i_1] = A [i, i_1]) ∧ h = h ∧ a = a ∧ s = s) := by kernel_rfl
theorem clN1_p1 (K : Ix → Int) (O A : Ix → Bool) (h a s : Int) (n : Nat) :
    isMore (evTill Tryd.prog [] 100 (behind Tryd.f30 1) 900 30 (headOf Tryd.f30 1) (envAt Tryd.f30.ntmps (clE K O A 1 n)) ([] ++ tabE 60 K O A h a s) ⟨[.s true, .s true, .s true, .f], 90⟩) (moreP (headOf Tryd.f30 1) ([]) Tryd.f30.ntmps (clE K O A 1 (n + 1)) (tabE 60 K O A h a s) 120) =
    (OkL [(decide ((↑n : Int) < (256 : Int)), true), (decide ((0 : Int) ≤ (↑n : Int) ∧ (↑n : Int) < (↑(256 : Nat) : Int)), true), (K [(1 : Nat), (↑n : Int).toNat] == (1 : Int) && (O [(1 : Nat), (↑n : Int).toNat] == false && true), true)] ∧ headOf Tryd.f30 (1 : Nat) = headOf Tryd.f30 (1 : Nat) ∧ (((2 : Nat) = (2 : Nat) ∧ (256 : Nat) = (256 : Nat) ∧ ((∀ (i : Nat), i < (2 : Nat) → ∀ (i_1 : Nat), i_1 < (256 : Nat) → K [i, i_1] = K [i, i_1]) ∧ ∀ (i : Nat), i < (2 : Nat) → ∀ (i_1 : Nat), i_1 < (256 : Nat) → O [i, i_1] = O [i, i_1]) ∧ ∀ (i : Nat), i < (2 : Nat) → ∀ (i_1 : Nat), i_1 < (256 : Nat) → A [i, i_1] = A [i, i_1]) ∧ (↑(1 : Nat) : Int) = (↑(1 : Nat) : Int) ∧ ((256 : Nat) = (256 : Nat) ∧ ((∀ (i : Nat), i < (256 : Nat) → K [(1 : Nat), i] = K [(1 : Nat), i]) ∧ ∀ (i : Nat), i < (256 : Nat) → O [(1 : Nat), i] = O [(1 : Nat), i]) ∧ ∀ (i : Nat), i < (256 : Nat) → A [(1 : Nat), i] = A [(1 : Nat), i]) ∧ (↑(n + (1 : Nat)) : Int) = IntKind.i64.wrap ((↑n : Int) + (1 : Int))) ∧ ((2 : Nat) = (2 : Nat) ∧ (256 : Nat) = (256 : Nat) ∧ ((∀ (i : Nat), i < (2 : Nat) → ∀ (i_1 : Nat), i_1 < (256 : Nat) → K [i, i_1] = K [i, i_1]) ∧ ∀ (i : Nat), i < (2 : Nat) → ∀ (i_1 : Nat), i_1 < (256 : Nat) → O [i, i_1] = O [i, i_1]) ∧ ∀ (i : Nat), i < (2 : Nat) → ∀ (i_1 : Nat), i_1 < (256 : Nat) → A [i, i_1] = A [i, i_1]) ∧ h = h ∧ a = a ∧ s = s) := by kernel_rfl

set_option maxHeartbeats 4000000 in
theorem clN1 (K : Ix → Int) (O A : Ix → Bool) (h a s : Int) (n : Nat) (hn : n < 256) (hc : cal (K [1, n]) (O [1, n]) = true) (v : SV) (L' : HF) (next : RunsTo Tryd.prog 30 (headOf Tryd.f30 1) (envAt Tryd.f30.ntmps (clE K O A 1 (n + 1))) (Sx.look ([] ++ tabE 60 K O A h a s)) 80 v L' 120) :
    RunsTo Tryd.prog 30 (headOf Tryd.f30 1) (envAt Tryd.f30.ntmps (clE K O A 1 n)) (Sx.look ([] ++ tabE 60 K O A h a s)) 80 v L' 120 := by
  have gg0 : (decide ((↑n : Int) < (256 : Int))) = true := by clear next; first | (simp (disch := omega) only [SS] at *; omega) | (simp (disch := omega) only [SS, cal] at *; grind)
  have gg1 : (decide ((0 : Int) ≤ (↑n : Int) ∧ (↑n : Int) < (↑(256 : Nat) : Int))) = true := by clear next; first | (simp (disch := omega) only [SS] at *; omega) | (simp (disch := omega) only [SS, cal] at *; grind)
  refine bcase (c := (K [(1 : Nat), (↑n : Int).toNat] == (1 : Int) && (O [(1 : Nat), (↑n : Int).toNat] == false && true))) (fun gg2 => ?_) (fun gg2 => ?_)
  · have gg3 : (!(K [(1 : Nat), (↑n : Int).toNat] == (0 : Int) && (O [(1 : Nat), (↑n : Int).toNat] == false && true))) = false := by clear next; first | (simp (disch := omega) only [SS] at *; omega) | (simp (disch := omega) only [SS, cal] at *; grind)
    refine runs_more baseO (More.of (clN1_p0 K O A h a s n) ⟨(okc gg0 (okc gg1 (okc gg2 (okc gg3 okn)))), rfl, ?_⟩) (by kernel_rfl) (by kernel_rfl) rfl (gtL (by decide)) (by decide) next
    clear next
    have hw : IntKind.i64.wrap ((n : Int) + 1) = ((n + 1 : Nat) : Int) := by rw [wr64 (by omega)]; rfl
    simp [hw]
    try omega
  · refine runs_more baseO (More.of (clN1_p1 K O A h a s n) ⟨(okc gg0 (okc gg1 (okc gg2 okn))), rfl, ?_⟩) (by kernel_rfl) (by kernel_rfl) rfl (gtL (by decide)) (by decide) next
    clear next
    have hw : IntKind.i64.wrap ((n : Int) + 1) = ((n + 1 : Nat) : Int) := by rw [wr64 (by omega)]; rfl
    simp [hw]
    try omega

theorem clB1_p0 (K : Ix → Int) (O A : Ix → Bool) (h a s : Int) (n : Nat) :
    isEnd (evTill Tryd.prog [] 100 (behind Tryd.f30 1) 900 30 (headOf Tryd.f30 1) (envAt Tryd.f30.ntmps (clE K O A 1 n)) ([] ++ tabE 60 K O A h a s) ⟨[.s true, .s true, .s false, .s true], 90⟩) (endP ([]) (.v (.vb fun _ => false)) (tabE 60 K O A h a s) 120) =
    (OkL [(decide ((↑n : Int) < (256 : Int)), true), (decide ((0 : Int) ≤ (↑n : Int) ∧ (↑n : Int) < (↑(256 : Nat) : Int)), true), (K [(1 : Nat), (↑n : Int).toNat] == (1 : Int) && (O [(1 : Nat), (↑n : Int).toNat] == false && true), false), (!(K [(1 : Nat), (↑n : Int).toNat] == (0 : Int) && (O [(1 : Nat), (↑n : Int).toNat] == false && true)), true)] ∧ false = false ∧ ((2 : Nat) = (2 : Nat) ∧ (256 : Nat) = (256 : Nat) ∧ ((∀ (i : Nat), i < (2 : Nat) → ∀ (i_1 : Nat), i_1 < (256 : Nat) → K [i, i_1] = K [i, i_1]) ∧ ∀ (i : Nat), i < (2 : Nat) → ∀ (i_1 : Nat), i_1 < (256 : Nat) → O [i, i_1] = O [i, i_1]) ∧ ∀ (i : Nat), i < (2 : Nat) → ∀ (i_1 : Nat), i_1 < (256 : Nat) → A [i, i_1] = A [i, i_1]) ∧ h = h ∧ a = a ∧ s = s) := by kernel_rfl

set_option maxHeartbeats 4000000 in
theorem clB1 (K : Ix → Int) (O A : Ix → Bool) (h a s : Int) (n : Nat) (hn : n < 256) (hc : cal (K [1, n]) (O [1, n]) = false) :
    RunsTo Tryd.prog 30 (headOf Tryd.f30 1) (envAt Tryd.f30.ntmps (clE K O A 1 n)) (Sx.look ([] ++ tabE 60 K O A h a s)) 80 (.v (.vb fun _ => false)) (Sx.look (tabE 60 K O A h a s)) 120 := by
  have gg0 : (decide ((↑n : Int) < (256 : Int))) = true := by first | (simp (disch := omega) only [SS] at *; omega) | (simp (disch := omega) only [SS, cal] at *; grind)
  have gg1 : (decide ((0 : Int) ≤ (↑n : Int) ∧ (↑n : Int) < (↑(256 : Nat) : Int))) = true := by first | (simp (disch := omega) only [SS] at *; omega) | (simp (disch := omega) only [SS, cal] at *; grind)
  have gg2 : (K [(1 : Nat), (↑n : Int).toNat] == (1 : Int) && (O [(1 : Nat), (↑n : Int).toNat] == false && true)) = false := by first | (simp (disch := omega) only [SS] at *; omega) | (simp (disch := omega) only [SS, cal] at *; grind)
  have gg3 : (!(K [(1 : Nat), (↑n : Int).toNat] == (0 : Int) && (O [(1 : Nat), (↑n : Int).toNat] == false && true))) = true := by first | (simp (disch := omega) only [SS] at *; omega) | (simp (disch := omega) only [SS, cal] at *; grind)
  refine runs_last baseO (Sx.Ends.of (clB1_p0 K O A h a s n) ⟨(okc gg0 (okc gg1 (okc gg2 (okc gg3 okn)))), ?_⟩) (by kernel_rfl) rfl (gtL (by decide)) (by decide)
  simp

theorem clX_p0 (K : Ix → Int) (O A : Ix → Bool) (h a s : Int) :
    isMore (evTill Tryd.prog [] 100 (behind Tryd.f30 1) 900 30 (headOf Tryd.f30 1) (envAt Tryd.f30.ntmps (clE K O A 0 256)) ([] ++ tabE 60 K O A h a s) ⟨[.f, .t, .t], 90⟩) (moreP (headOf Tryd.f30 1) ([]) Tryd.f30.ntmps (clE K O A 1 0) (tabE 60 K O A h a s) 120) =
    (OkL [] ∧ headOf Tryd.f30 (1 : Nat) = headOf Tryd.f30 (1 : Nat) ∧ (((2 : Nat) = (2 : Nat) ∧ (256 : Nat) = (256 : Nat) ∧ ((∀ (i : Nat), i < (2 : Nat) → ∀ (i_1 : Nat), i_1 < (256 : Nat) → K [i, i_1] = K [i, i_1]) ∧ ∀ (i : Nat), i < (2 : Nat) → ∀ (i_1 : Nat), i_1 < (256 : Nat) → O [i, i_1] = O [i, i_1]) ∧ ∀ (i : Nat), i < (2 : Nat) → ∀ (i_1 : Nat), i_1 < (256 : Nat) → A [i, i_1] = A [i, i_1]) ∧ (↑(1 : Nat) : Int) = IntKind.i64.wrap ((↑(0 : Nat) : Int) + (1 : Int)) ∧ ((256 : Nat) = (256 : Nat) ∧ ((∀ (i : Nat), i < (256 : Nat) → K [(1 : Nat), i] = K [(1 : Nat), i]) ∧ ∀ (i : Nat), i < (256 : Nat) → O [(1 : Nat), i] = O [(1 : Nat), i]) ∧ ∀ (i : Nat), i < (256 : Nat) → A [(1 : Nat), i] = A [(1 : Nat), i]) ∧ (↑(0 : Nat) : Int) = (0 : Int)) ∧ ((2 : Nat) = (2 : Nat) ∧ (256 : Nat) = (256 : Nat) ∧ ((∀ (i : Nat), i < (2 : Nat) → ∀ (i_1 : Nat), i_1 < (256 : Nat) → K [i, i_1] = K [i, i_1]) ∧ ∀ (i : Nat), i < (2 : Nat) → ∀ (i_1 : Nat), i_1 < (256 : Nat) → O [i, i_1] = O [i, i_1]) ∧ ∀ (i : Nat), i < (2 : Nat) → ∀ (i_1 : Nat), i_1 < (256 : Nat) → A [i, i_1] = A [i, i_1]) ∧ h = h ∧ a = a ∧ s = s) := by kernel_rfl

set_option maxHeartbeats 4000000 in
theorem clX (K : Ix → Int) (O A : Ix → Bool) (h a s : Int) (v : SV) (L' : HF) (next : RunsTo Tryd.prog 30 (headOf Tryd.f30 1) (envAt Tryd.f30.ntmps (clE K O A 1 0)) (Sx.look ([] ++ tabE 60 K O A h a s)) 80 v L' 120) :
    RunsTo Tryd.prog 30 (headOf Tryd.f30 1) (envAt Tryd.f30.ntmps (clE K O A 0 256)) (Sx.look ([] ++ tabE 60 K O A h a s)) 80 v L' 120 := by
  refine runs_more baseO (More.of (clX_p0 K O A h a s) ⟨okn, rfl, ?_⟩) (by kernel_rfl) (by kernel_rfl) rfl (gtL (by decide)) (by decide) next
  clear next
  simp
  try exact (wr64s (by decide) (by decide)).symm

theorem clZ_p0 (K : Ix → Int) (O A : Ix → Bool) (h a s : Int) :
    isEnd (evTill Tryd.prog [] 100 (behind Tryd.f30 1) 900 30 (headOf Tryd.f30 1) (envAt Tryd.f30.ntmps (clE K O A 1 256)) ([] ++ tabE 60 K O A h a s) ⟨[.f, .f], 90⟩) (endP ([]) YES (tabE 60 K O A h a s) 120) =
    (OkL [] ∧ true = true ∧ ((2 : Nat) = (2 : Nat) ∧ (256 : Nat) = (256 : Nat) ∧ ((∀ (i : Nat), i < (2 : Nat) → ∀ (i_1 : Nat), i_1 < (256 : Nat) → K [i, i_1] = K [i, i_1]) ∧ ∀ (i : Nat), i < (2 : Nat) → ∀ (i_1 : Nat), i_1 < (256 : Nat) → O [i, i_1] = O [i, i_1]) ∧ ∀ (i : Nat), i < (2 : Nat) → ∀ (i_1 : Nat), i_1 < (256 : Nat) → A [i, i_1] = A [i, i_1]) ∧ h = h ∧ a = a ∧ s = s) := by kernel_rfl

set_option maxHeartbeats 4000000 in
theorem clZ (K : Ix → Int) (O A : Ix → Bool) (h a s : Int)  :
    RunsTo Tryd.prog 30 (headOf Tryd.f30 1) (envAt Tryd.f30.ntmps (clE K O A 1 256)) (Sx.look ([] ++ tabE 60 K O A h a s)) 80 YES (Sx.look (tabE 60 K O A h a s)) 120 := by
  refine runs_last baseO (Sx.Ends.of (clZ_p0 K O A h a s) ⟨okn, ?_⟩) (by kernel_rfl) rfl (gtL (by decide)) (by decide)
  simp

theorem clL1 (K : Ix → Int) (O A : Ix → Bool) (h a s : Int) : ∀ k n, n + k = 256 → RunsTo Tryd.prog 30 (headOf Tryd.f30 1) (envAt Tryd.f30.ntmps (clE K O A 1 n)) (Sx.look ([] ++ tabE 60 K O A h a s)) 80 (.v (.vb fun _ => rowC K O 1 k n)) (Sx.look (tabE 60 K O A h a s)) 120 := by
  intro k
  induction k with
  | zero => intro n hn; obtain rfl : n = 256 := (by omega); exact clZ K O A h a s
  | succ k ih =>
    intro n hn
    cases hc : cal (K [1, n]) (O [1, n]) with
    | true =>
      have e : rowC K O 1 (k + 1) n = rowC K O 1 k (n + 1) := by simp only [rowC, hc, Bool.true_and]
      rw [e]; exact clN1 K O A h a s n (by omega) hc _ _ (ih (n + 1) (by omega))
    | false =>
      have e : rowC K O 1 (k + 1) n = false := by simp only [rowC, hc, Bool.false_and]
      rw [e]; exact clB1 K O A h a s n (by omega) hc
theorem clL0 (K : Ix → Int) (O A : Ix → Bool) (h a s : Int) : ∀ k n, n + k = 256 → RunsTo Tryd.prog 30 (headOf Tryd.f30 1) (envAt Tryd.f30.ntmps (clE K O A 0 n)) (Sx.look ([] ++ tabE 60 K O A h a s)) 80 (.v (.vb fun _ => rowC K O 0 k n && rowC K O 1 256 0)) (Sx.look (tabE 60 K O A h a s)) 120 := by
  intro k
  induction k with
  | zero => intro n hn; obtain rfl : n = 256 := (by omega); exact clX K O A h a s _ _ (clL1 K O A h a s 256 0 (by omega))
  | succ k ih =>
    intro n hn
    cases hc : cal (K [0, n]) (O [0, n]) with
    | true =>
      have e : rowC K O 0 (k + 1) n = rowC K O 0 k (n + 1) := by simp only [rowC, hc, Bool.true_and]
      rw [e]; exact clN0 K O A h a s n (by omega) hc _ _ (ih (n + 1) (by omega))
    | false =>
      have e : rowC K O 0 (k + 1) n = false := by simp only [rowC, hc, Bool.false_and]
      rw [e]; exact clB0 K O A h a s n (by omega) hc
def calmPC : PC := { args := [.v (.vp 60)], heap := tabP 60 0, gs := [], G := 16, tp := 131, n := 80, n' := 120, cond := fun _ => true, v := fun e => .v (.vb fun _ => calmAll (eI e 0) (eB e 1)), post := fun e => tabE 60 (eI e 0) (eB e 1) (eB e 2) (eI e 3 []) (eI e 4 []) (eI e 5 []) }
theorem calm_pc : PC.Runs Tryd.prog 30 Tryd.f30 (bodyOf Tryd.f30) calmPC := ⟨Tryd.func30, by kernel_rfl, (fun g hg => by cases hg), fun e H hc => cl0 (eI e 0) (eB e 1) (eB e 2) (eI e 3 []) (eI e 4 []) (eI e 5 []) _ _ (clL0 (eI e 0) (eB e 1) (eB e 2) (eI e 3 []) (eI e 4 []) (eI e 5 []) 256 0 (by omega))⟩
theorem row_all {K : Ix → Int} {O : Ix → Bool} {p : Nat} : ∀ {k n : Nat}, rowC K O p k n = true ↔ ∀ m, n ≤ m → m < n + k → cal (K [p, m]) (O [p, m]) = true
  | 0, n => ⟨fun _ m h1 h2 => by omega, fun _ => rfl⟩
  | k + 1, n => by
    simp only [rowC, Bool.and_eq_true, row_all (k := k) (n := n + 1)]
    constructor
    · rintro ⟨h1, h2⟩ m h3 h4
      rcases Nat.eq_or_lt_of_le h3 with rfl | h5
      · exact h1
      · exact h2 m (by omega) (by omega)
    · intro hh
      exact ⟨hh n (by omega) (by omega), fun m h1 h2 => hh m (by omega) (by omega)⟩
theorem calm_all {K : Ix → Int} {O : Ix → Bool} : calmAll K O = true ↔ ∀ p, p < 2 → ∀ n, n < 256 → cal (K [p, n]) (O [p, n]) = true := by
  simp only [calmAll, Bool.and_eq_true, row_all]
  constructor
  · rintro ⟨h1, h2⟩ p hp n hn
    rcases (by omega : p = 0 ∨ p = 1) with rfl | rfl
    · exact h1 n (by omega) (by omega)
    · exact h2 n (by omega) (by omega)
  · intro hh
    exact ⟨fun n _ hn => hh 0 (by omega) n (by omega), fun n _ hn => hh 1 (by omega) n (by omega)⟩


def sumsL : List (FuncId × Summ) := [(23, newPC.summ 32)]
theorem baseL : Base0 Tryd.prog sumsL := baseO.cons Tryd.func23 (by kernel_rfl) (PC.summ_ok new_pc gtop32)

theorem aliveI_p0 (z : Nat) :
    isEnd (evTill Tryd.prog sumsL 300 99 900 22 [.code (bodyOf Tryd.f22)] (envOf [] Tryd.f22.ntmps) [] ⟨[.t, .t, .f, .t, .f, .t, .f, .t, .t, .t, .t, .t, .t, .t, .t, .t, .t, .f, .t, .t, .t, .f, .t, .t, .t, .t, .f, .f, .f, .t, .t, .t, .t, .t, .t, .t, .f, .t, .f, .t, .t, .t, .t, .t, .f, .t, .f, .t, .t, .t, .t], 80⟩) (endP ([]) YES [] 400) =
    (OkL [] ∧ true = true ∧ True) := by kernel_rfl

set_option maxHeartbeats 4000000 in
theorem aliveI (z : Nat)  :
    RunsTo Tryd.prog 22 [.code (bodyOf Tryd.f22)] (envOf [] Tryd.f22.ntmps) (Sx.look []) 80 YES (Sx.look []) 400 := by
  exact runs_last baseL (Sx.Ends.of (aliveI_p0 z) ⟨okn, by simp⟩) (by kernel_rfl) rfl (gtL (by decide)) (by decide)

def aliveC : PC := { args := [], heap := [], gs := [], G := 16, tp := 131, n := 80, n' := 400, cond := fun e => true, v := fun e => YES, post := fun e => [] }
theorem alive_pc : PC.Runs Tryd.prog 22 Tryd.f22 (bodyOf Tryd.f22) aliveC := ⟨Tryd.func22, by kernel_rfl, (fun g hg => by cases hg), fun e H hc => aliveI 0⟩
end Go.Proofs.YtgbgfekfcjphnaaDoor
