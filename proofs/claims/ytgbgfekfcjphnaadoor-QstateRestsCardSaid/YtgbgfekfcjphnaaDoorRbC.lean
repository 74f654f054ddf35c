/- Q states: what one side hears, at its calls. -/
import Derived.Test.YtgbgfekfcjphnaaDoorRaC
import Derived.Test.YtgbgfekfcjphnaaDoorSxPb
set_option linter.unusedSimpArgs false
set_option linter.unusedVariables false
set_option maxRecDepth 100000
namespace Go.Proofs.YtgbgfekfcjphnaaDoor
open Go.Sx

def hearC (k : Int) (o : Bool) (n1 n2 : Nat) (b : Bool) : Bool := decide (0 ≤ k) && decide (k ≤ 3) && (!o || decide (2 ≤ k)) && decide (0 < n2) && decide (n1 ≤ 1000) && (!decide (k = 2) || !b)

def sideP (p l i : Nat) : List PE := [⟨p, true, 4, .tc (.tc (.vi .i64 i) (.tc (.vb (i + 1)) .t0)) (.tc (.vl l 1 (i + 2)) (.tc (.vb (i + 3)) .t0))⟩, ⟨l, true, 1, .ta (i + 2) (.vb (i + 4))⟩]

def hearPC : PC :=
  { args := [.v (.vp 121), .v (.vp 122)], heap := sideP 121 123 0 ++ sideP 122 124 5, gs := [], G := 16, tp := 131, n := 130, n' := 200,
    cond := fun e => hearC (eI e 0 []) (eB e 1 []) (eN e 2) (eN e 7) (eB e 9 [0]), v := fun _ => YES,
    post := fun e => bothE 141 142 (hearK (eI e 0 []) (eB e 1 []) (eB e 9 [0]) (eB e 3 [])) false (sentN (hearS (eI e 0 []) (eB e 1 []) (eB e 9 [0]) (eB e 3 [])) (eN e 2)) (sentQ (hearS (eI e 0 []) (eB e 1 []) (eB e 9 [0]) (eB e 3 [])) (eN e 2) (eB e 4)) (eB e 3 [])
      (eI e 5 []) (eB e 6 []) (eN e 7 - 1) (shQ (eB e 9)) (eB e 8 []) }

theorem hear_pc : PC.Runs Tryd.prog 16 Tryd.f16 (bodyOf Tryd.f16) hearPC where
  fnO := Tryd.func16
  bodyO := by kernel_rfl
  low := fun g hg => by cases hg
  runs := fun e H hc => by
    simp only [hearPC, hearC, Bool.and_eq_true, decide_eq_true_eq, Bool.or_eq_true, Bool.not_eq_true', decide_eq_false_iff_not] at hc
    obtain ⟨⟨⟨⟨⟨c1, c2⟩, c3⟩, c4⟩, c5⟩, c6⟩ := hc
    exact hear (eI e 0 []) (eB e 1 []) (eN e 2) (eB e 4) (eB e 3 []) (eI e 5 []) (eB e 6 []) (eN e 7) (eB e 9) (eB e 8 []) c1 c2 (fun h => by simpa [h] using c3) c4 c5 (fun h => by simpa [h] using c6)

theorem gtop32 : gtop Tryd.prog = 32 := of_decide_eq_true (by kernel_rfl)

def sumsR : List (FuncId × Summ) := [(16, hearPC.summ 32)]
theorem baseR : Base0 Tryd.prog sumsR := base0.cons Tryd.func16 (by kernel_rfl) (PC.summ_ok hear_pc gtop32)

end Go.Proofs.YtgbgfekfcjphnaaDoor
