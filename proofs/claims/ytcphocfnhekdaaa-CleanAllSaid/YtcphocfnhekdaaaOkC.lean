/- CleanAll: lifted. -/
import Derived.Test.YtcphocfnhekdaaaOiC
import Derived.Test.YtcphocfnhekdaaaSyY
import Derived.Test.YtcphocfnhekdaaaSyPl
set_option maxRecDepth 100000
set_option linter.unusedSimpArgs false
set_option linter.unusedVariables false
namespace Go.Proofs.Ytcphocfnhekdaaa
open Go.ChangeShapes Go.WideShapes Go.ChangeAt Go.RowKit
open Go.Sx

theorem cleanAll_sh : shsOf Try.prog Try.f3.params.toList = some [.sl (.ki .u8), .sl (.ki .i64), .kb] := by kernel_rfl
theorem cleanAll_own : ownKnob Try.prog.godebug = none := by kernel_rfl
theorem cleanAll_readable : ∀ t ∈ Try.f3.params.toList, Try.prog.readableRec t = true ∧ t < Try.prog.types.size := by
  have h : (Try.f3.params.toList.all fun t => Try.prog.readableRec t && decide (t < Try.prog.types.size)) = true := by kernel_rfl
  intro t ht
  have := List.all_eq_true.1 h t ht
  simpa using this
theorem cleanAll_gt {n : Nat} : gtop Try.prog ≤ n := by rw [show gtop Try.prog = 0 from of_decide_eq_true (by kernel_rfl)]; exact Nat.zero_le _

theorem cleanAll_lifted (os : Os) (started : os.Started) (H : Type) (enc : TypeId × Value → H) :
    ReturnsInHanded {} Try.checked os 3 .any (Rows.cleanAllSpec.pre6 enc Try.prog Try.f3 [] false) (Rows.cleanAllSpec.post enc Try.prog Try.f3 false true false false) := by
  refine returnsInHanded_of_change (C := Try.checked) cleanAll_own started (by kernel_rfl) Try.func3
    (ChangeSpec.witness6 (C := Try.checked) (os := os) false ⟨#[], #[.slice none 0 0, .slice none 0 0, .bool false], []⟩ 8 (by kernel_rfl) (by kernel_rfl) (by kernel_rfl) (by kernel_rfl)) ?_
  intro W base args ds gs before hval hW _ _
  have hW' := hW
  obtain ⟨p, q, hA, hV, rfl, hfz, hnd⟩ := hW
  obtain ⟨rfl, rfl⟩ := trodVars_none hV
  have g3 : ds.length = 3 := (args_open cleanAll_sh hA (fun j t v h1 h2 => hval j t v (by rw [← Array.getElem?_toList]; exact h1) (by rw [← Array.getElem?_toList]; exact h2))).2.2.1
  match ds, g3 with
  | [d1, d2, d3], _ =>
    refine (law_calls Try.func3 (body := bodyOf Try.f3) (by kernel_rfl) cleanAll_sh hA hval (lab := 100) (n := 110) (n' := 40000) (L' := Sx.look []) (gl := []) (ρ0 := conG) cleanAll_gt (globG _) (hold0 _ _) (fun e he => by cases he) (fun cs hcs hIs => ?_)).mono fun e W' ⟨he, hB⟩ => ⟨_, he, law_post (bt := 4) (by kernel_rfl) cleanAll_readable rfl (by kernel_rfl) (by kernel_rfl) hW' rfl hB⟩
    clear hcs
    have hX : ∀ i, i < lenOf (rd0 cs [] 0) → 0 ≤ Sx.intOf (rdOf W 1 (rd0 cs) 0 [i] 0) ∧ Sx.intOf (rdOf W 1 (rd0 cs) 0 [i] 0) < 256 := by
      obtain ⟨a1, r1, e1, l1, he, hrest⟩ := hIs
      have he2 := he
      obtain ⟨v, e4, _⟩ := he2
      rw [e4] at he
      have e5 : rd0 cs [] 0 = v := by
        show cs.getD 0 undef = v
        rw [e1, e4]
        rfl
      intro i hi
      rw [e5] at hi
      exact sl_u8 he e5 i hi
    refine RunsTo.start (cargs := [.v (.vl 100 (fun _ => 0) 1 [] (fun _ => lenOf (rd0 cs [] 0))), .v (.vl 101 (fun _ => 0) 1 [] (fun _ => lenOf (rd0 cs [] 1))), .v (.vb fun _ => (Sx.boolOf (rd0 cs [] 2)))]) ?_ ⟨⟨rfl, rfl⟩, ⟨rfl, rfl⟩, rfl, trivial⟩
    exact cleanAll_law (lenOf (rd0 cs [] 0)) (lenOf (rd0 cs [] 1)) (fun is => Sx.intOf (rdOf W 1 (rd0 cs) 0 is 0)) (fun is => Sx.intOf (rdOf W 1 (rd0 cs) 1 is 0)) (Sx.boolOf (rd0 cs [] 2)) hX

theorem cleanAll_holds : Rows.CleanAllSaid :=
  OpenClaim.holds_of_wide 3 Try.f3 rfl rfl rfl rfl rfl rfl rfl ⟨rfl, rfl, rfl, rfl, rfl⟩ rfl rfl rfl rfl rfl (by kernel_rfl) Try.func3 (by kernel_rfl)
    (of_decide_eq_true (by kernel_rfl)) (by unfold Func.isWrapper; first | (rw [if_pos (by decide +kernel)]; kernel_rfl) | (rw [if_neg (by decide +kernel)]; exact ⟨rfl, rfl⟩))
    (fun os started H enc _ => cleanAll_lifted os started H enc)
end Go.Proofs.Ytcphocfnhekdaaa
