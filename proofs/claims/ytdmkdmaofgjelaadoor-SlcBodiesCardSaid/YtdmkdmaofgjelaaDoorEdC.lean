/- Special characters: bodies, at their calls. -/
import Derived.Test.YtdmkdmaofgjelaaDoorEcC
set_option linter.unusedSimpArgs false
set_option linter.unusedVariables false
set_option maxRecDepth 100000
namespace Go.Proofs.YtdmkdmaofgjelaaDoor
open Go.Sx

def triP : List PE := [⟨60, false, 4, .ta 0 (.tc (.vi .i64 1) (.tc (.tc (.vi .i64 2) (.tc (.vi .i64 3) .t0)) (.tc (.vb 4) .t0)))⟩]
def bytP : List PE := [⟨60, false, 1, .ta 0 (.vi .u8 1)⟩]
def allB (B : Ix → Int) (n : Nat) : Bool := (List.range n).all fun i => decide (0 ≤ B [i]) && decide (B [i] < 256)
theorem allB_ok {B : Ix → Int} {n : Nat} (h : allB B n = true) : ∀ i, i < n → 0 ≤ B [i] ∧ B [i] < 256 := fun i hi => by
  have := List.all_eq_true.1 h i (List.mem_range.2 hi)
  simpa using this

/-- Of right triples, not too many. -/
def bodyOkPC : PC := { args := [.v (.vl 60 4 0)], heap := triP, gs := [1, 3], G := 16, tp := 140, n := 80, n' := 160, cond := fun e => allR (eI e 1) (eI e 2) (eI e 3) (eN e 0) && decide (eN e 0 ≤ 85), v := fun e => .tup [(false, .vl 101 (fun _ => 0) 1 [] (fun _ => 3 * eN e 0)), (false, .ve0)], post := fun e => rowU 101 (3 * eN e 0) (bodyB (eI e 1) (eI e 2) (eI e 3) (eB e 4)) }
theorem bodyOk_pc : PC.Runs Tryd.prog 49 Tryd.f49 (bodyOf Tryd.f49) bodyOkPC := ⟨Tryd.func49, by kernel_rfl, (fun g hg => by simp only [bodyOkPC, List.mem_cons, List.not_mem_nil, or_false] at hg; rcases hg with rfl | rfl <;> decide), fun e H hc => by
  simp only [bodyOkPC, Bool.and_eq_true, decide_eq_true_eq] at hc
  exact bd0 _ _ (eN e 0) (eI e 1) (eI e 2) (eI e 3) (eB e 4) _ _ (bdL _ _ (eN e 0) (eI e 1) (eI e 2) (eI e 3) (eB e 4) hc.2 hc.1 (eN e 0) 0 (by omega))⟩
def bodyFormPC : PC := { args := [.v (.vl 60 4 0)], heap := triP, gs := [1, 3], G := 16, tp := 140, n := 80, n' := 160, cond := fun e => !allR (eI e 1) (eI e 2) (eI e 3) (eN e 0) && decide (eN e 0 ≤ 100), v := fun e => .tup [(false, .vl0), (false, .ve 140 (.vp 19 (fun _ => 0) []))], post := fun e => [] }
theorem bodyForm_pc : PC.Runs Tryd.prog 49 Tryd.f49 (bodyOf Tryd.f49) bodyFormPC := ⟨Tryd.func49, by kernel_rfl, (fun g hg => by simp only [bodyFormPC, List.mem_cons, List.not_mem_nil, or_false] at hg; rcases hg with rfl | rfl <;> decide), fun e H hc => by
  simp only [bodyFormPC, Bool.and_eq_true, decide_eq_true_eq, Bool.not_eq_true'] at hc
  obtain ⟨q, h1, h2, h3⟩ := allR_no hc.1
  exact bd0 _ _ (eN e 0) (eI e 1) (eI e 2) (eI e 3) (eB e 4) _ _ (bdF _ _ (eN e 0) (eI e 1) (eI e 2) (eI e 3) (eB e 4) hc.2 q h1 h2 h3 q 0 (by omega))⟩
def bodyLongPC : PC := { args := [.v (.vl 60 4 0)], heap := triP, gs := [1, 3], G := 16, tp := 140, n := 80, n' := 160, cond := fun e => allR (eI e 1) (eI e 2) (eI e 3) (eN e 0) && (decide (85 < eN e 0) && decide (eN e 0 ≤ 100)), v := fun e => .tup [(false, .vl0), (false, .ve 140 (.vp 17 (fun _ => 0) []))], post := fun e => [] }
theorem bodyLong_pc : PC.Runs Tryd.prog 49 Tryd.f49 (bodyOf Tryd.f49) bodyLongPC := ⟨Tryd.func49, by kernel_rfl, (fun g hg => by simp only [bodyLongPC, List.mem_cons, List.not_mem_nil, or_false] at hg; rcases hg with rfl | rfl <;> decide), fun e H hc => by
  simp only [bodyLongPC, Bool.and_eq_true, decide_eq_true_eq] at hc
  exact bd0 _ _ (eN e 0) (eI e 1) (eI e 2) (eI e 3) (eB e 4) _ _ (bdG _ _ (eN e 0) (eI e 1) (eI e 2) (eI e 3) (eB e 4) hc.2.2 hc.2.1 hc.1 (eN e 0) 0 (by omega))⟩
def bodyRPC : PC := { args := [.v (.vl 60 4 0)], heap := triP, gs := [], G := 16, tp := 140, n := 80, n' := 160, cond := fun e => decide (eN e 0 ≤ 100), v := fun e => .tup [(false, .vs fun _ => txtB (eI e 1) (eI e 2) (eI e 3) (eB e 4) (eN e 0)), (false, .vi .i64 fun _ => numB (eI e 1) (eI e 2) (eI e 3) (eN e 0))], post := fun e => [] }
theorem bodyR_pc : PC.Runs Tryd.prog 50 Tryd.f50 (bodyOf Tryd.f50) bodyRPC := ⟨Tryd.func50, by kernel_rfl, (fun g hg => by cases hg), fun e H hc => bodyR (eN e 0) (eI e 1) (eI e 2) (eI e 3) (eB e 4) (of_decide_eq_true hc)⟩

/-- Of bytes, three a triple. -/
def parseOkPC : PC := { args := [.v (.vl 60 1 0)], heap := bytP, gs := [], G := 16, tp := 140, n := 80, n' := 160, cond := fun e => decide (eN e 0 % 3 = 0) && (decide (eN e 0 ≤ 300) && allB (eI e 1) (eN e 0)), v := fun e => .tup [(false, slT 101 (rts (gB (eI e 1)) (eN e 0 / 3))), (false, .ve0)], post := fun e => rowT 101 (rts (gB (eI e 1)) (eN e 0 / 3)) }
theorem parseOk_pc : PC.Runs Tryd.prog 51 Tryd.f51 (bodyOf Tryd.f51) parseOkPC := ⟨Tryd.func51, by kernel_rfl, (fun g hg => by cases hg), fun e H hc => by
  simp only [parseOkPC, Bool.and_eq_true, decide_eq_true_eq] at hc
  exact parse_ok (eN e 0) (eI e 1) hc.2.1 (allB_ok hc.2.2) hc.1⟩
def parseBadPC : PC := { args := [.v (.vl 60 1 0)], heap := bytP, gs := [0], G := 16, tp := 140, n := 80, n' := 160, cond := fun e => !decide (eN e 0 % 3 = 0), v := fun e => .tup [(false, .vl0), (false, .ve 140 (.vp 16 (fun _ => 0) []))], post := fun e => [] }
theorem parseBad_pc : PC.Runs Tryd.prog 51 Tryd.f51 (bodyOf Tryd.f51) parseBadPC := ⟨Tryd.func51, by kernel_rfl, (fun g hg => by simp only [parseBadPC, List.mem_singleton] at hg; subst hg; decide), fun e H hc => by
  simp only [parseBadPC, Bool.not_eq_true', decide_eq_false_iff_not] at hc
  exact paBad _ (eN e 0) (eI e 1) hc⟩

def lstR (t : List UInt8) : List Tri := if t.length % 3 = 0 then rts (gS t) (t.length / 3) else []
def numR (t : List UInt8) : Int := if t.length % 3 = 0 then 0 else 3
def parseRPC : PC := { args := [.v (.vs 0)], heap := [], gs := [], G := 16, tp := 140, n := 80, n' := 160, cond := fun e => decide ((eS e 0 []).length ≤ 300), v := fun e => .tup [(false, slT 101 (lstR (eS e 0 []))), (false, .vi .i64 fun _ => numR (eS e 0 []))], post := fun e => rowT 101 (lstR (eS e 0 [])) }
theorem parseR_pc : PC.Runs Tryd.prog 52 Tryd.f52 (bodyOf Tryd.f52) parseRPC := ⟨Tryd.func52, by kernel_rfl, (fun g hg => by cases hg), fun e H hc => by
  have hc : (eS e 0 []).length ≤ 300 := of_decide_eq_true hc
  by_cases h : (eS e 0 []).length % 3 = 0
  · have := parseR_ok (eS e 0 []) hc h
    rw [show rts (gS (eS e 0 [])) ((eS e 0 []).length / 3) = lstR (eS e 0 []) by simp [lstR, h], show (0 : Int) = numR (eS e 0 []) by simp [numR, h]] at this
    exact this
  · have := prBad (eS e 0 []) h
    rw [show ([] : List Tri) = lstR (eS e 0 []) by simp [lstR, h], show (3 : Int) = numR (eS e 0 []) by simp [numR, h]] at this
    exact this⟩

end Go.Proofs.YtdmkdmaofgjelaaDoor
