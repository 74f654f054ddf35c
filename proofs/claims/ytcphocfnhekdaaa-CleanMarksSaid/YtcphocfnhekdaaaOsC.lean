/- CleanMarks: lifted. -/
import Derived.Test.YtcphocfnhekdaaaOqC
import Derived.Test.YtcphocfnhekdaaaSyY
import Derived.Test.YtcphocfnhekdaaaSyPl
set_option maxRecDepth 100000
set_option linter.unusedSimpArgs false
set_option linter.unusedVariables false
namespace Go.Proofs.Ytcphocfnhekdaaa
open Go.ChangeShapes Go.WideShapes Go.ChangeAt Go.RowKit
open Go.Sx

theorem cleanMarks_sh : shsOf Try.prog Try.f4.params.toList = some [.sl (.ki .u8), .ki .i64, .ki .i64] := by kernel_rfl
theorem cleanMarks_own : ownKnob Try.prog.godebug = none := by kernel_rfl
theorem cleanMarks_readable : ∀ t ∈ Try.f4.params.toList, Try.prog.readableRec t = true ∧ t < Try.prog.types.size := by
  have h : (Try.f4.params.toList.all fun t => Try.prog.readableRec t && decide (t < Try.prog.types.size)) = true := by kernel_rfl
  intro t ht
  have := List.all_eq_true.1 h t ht
  simpa using this
theorem cleanMarks_gt {n : Nat} : gtop Try.prog ≤ n := by rw [show gtop Try.prog = 0 from of_decide_eq_true (by kernel_rfl)]; exact Nat.zero_le _

theorem cleanMarks_lifted (os : Os) (started : os.Started) (H : Type) (enc : TypeId × Value → H) :
    ReturnsInHanded {} Try.checked os 4 .any (Rows.cleanMarksSpec.pre6 enc Try.prog Try.f4 [] false) (Rows.cleanMarksSpec.post enc Try.prog Try.f4 false true false false) := by
  refine returnsInHanded_of_change (C := Try.checked) cleanMarks_own started (by kernel_rfl) Try.func4
    (ChangeSpec.witness6 (C := Try.checked) (os := os) false ⟨#[], #[.slice none 0 0, .int .i64 0, .int .i64 0], []⟩ 8 (by kernel_rfl) (by kernel_rfl) (by kernel_rfl) (by kernel_rfl)) ?_
  intro W base args ds gs before hval hW _ _
  have hW' := hW
  obtain ⟨p, q, hA, hV, rfl, hfz, hnd⟩ := hW
  obtain ⟨rfl, rfl⟩ := trodVars_none hV
  have g3 : ds.length = 3 := (args_open cleanMarks_sh hA (fun j t v h1 h2 => hval j t v (by rw [← Array.getElem?_toList]; exact h1) (by rw [← Array.getElem?_toList]; exact h2))).2.2.1
  match ds, g3 with
  | [d1, d2, d3], _ =>
    refine (law_calls Try.func4 (body := bodyOf Try.f4) (by kernel_rfl) cleanMarks_sh hA hval (lab := 100) (n := 110) (n' := 60000) (L' := Sx.look []) (gl := []) (ρ0 := conG) cleanMarks_gt (globG _) (hold0 _ _) (fun e he => by cases he) (fun cs hcs hIs => ?_)).mono fun e W' ⟨he, hB⟩ => ⟨_, he, law_post (bt := 4) (by kernel_rfl) cleanMarks_readable rfl (by kernel_rfl) (by kernel_rfl) hW' rfl hB⟩
    clear hcs
    have hX : ∀ i, i < lenOf (rd0 cs [] 0) → 0 ≤ Sx.intOf (rdOf W 1 (rd0 cs) 0 [i] 0) ∧ Sx.intOf (rdOf W 1 (rd0 cs) 0 [i] 0) < 256 := by
      obtain ⟨a1, r1, e1, l1, he, hrest⟩ := hIs
      have he2 := he
      obtain ⟨v, e4, _⟩ := he2
      rw [e4] at he
      have e5 : rd0 cs [] 0 = v := by
        show cs.getD 0 undef = v
        rw [e1, e4]
        rfl
      intro i hi
      rw [e5] at hi
      exact sl_u8 he e5 i hi
    refine RunsTo.start (cargs := [.v (.vl 100 (fun _ => 0) 1 [] (fun _ => lenOf (rd0 cs [] 0))), .v (.vi .i64 fun _ => (Sx.intOf (rd0 cs [] 1))), .v (.vi .i64 fun _ => (Sx.intOf (rd0 cs [] 2)))]) ?_ ⟨⟨rfl, rfl⟩, rfl, rfl, trivial⟩
    exact cleanMarks_law (lenOf (rd0 cs [] 0)) (fun is => Sx.intOf (rdOf W 1 (rd0 cs) 0 is 0)) (Sx.intOf (rd0 cs [] 1)) (Sx.intOf (rd0 cs [] 2)) hX

theorem cleanMarks_holds : Rows.CleanMarksSaid :=
  OpenClaim.holds_of_wide 4 Try.f4 rfl rfl rfl rfl rfl rfl rfl ⟨rfl, rfl, rfl, rfl, rfl⟩ rfl rfl rfl rfl rfl (by kernel_rfl) Try.func4 (by kernel_rfl)
    (of_decide_eq_true (by kernel_rfl)) (by unfold Func.isWrapper; first | (rw [if_pos (by decide +kernel)]; kernel_rfl) | (rw [if_neg (by decide +kernel)]; exact ⟨rfl, rfl⟩))
    (fun os started H enc _ => cleanMarks_lifted os started H enc)
end Go.Proofs.Ytcphocfnhekdaaa
