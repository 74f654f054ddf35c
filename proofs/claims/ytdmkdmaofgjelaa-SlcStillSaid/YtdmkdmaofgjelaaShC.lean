/- SlcStill: lifted. -/
import Derived.Test.YtdmkdmaofgjelaaSgC
import Derived.Test.YtdmkdmaofgjelaaSxY
set_option maxRecDepth 100000
set_option linter.unusedSimpArgs false
set_option linter.unusedVariables false
namespace Go.Proofs.Ytdmkdmaofgjelaa
open Go.ChangeShapes Go.WideShapes Go.ChangeAt Go.RowKit
open Go.Sx

theorem slSh : shsOf Try.prog Try.f3.params.toList = some [.sl (.tc (.ki .i64) (.tc (.ki .i64) .t0)), .sl (.tc (.ki .i64) (.tc (.tc (.ki .i64) (.tc (.tc (.ki .i64) (.tc (.ki .i64) .t0)) (.tc .kb .t0))) .t0)), .tc (.ki .i64) (.tc (.tc (.ki .i64) (.tc (.ki .i64) .t0)) (.tc .kb .t0))] := by kernel_rfl

theorem own : ownKnob Try.prog.godebug = none := by kernel_rfl

theorem readable3 : ∀ t ∈ Try.f3.params.toList, Try.prog.readableRec t = true ∧ t < Try.prog.types.size := by
  have h : (Try.f3.params.toList.all fun t => Try.prog.readableRec t && decide (t < Try.prog.types.size)) = true := by kernel_rfl
  intro t ht
  have := List.all_eq_true.1 h t ht
  simpa using this

theorem sl_lifted (os : Os) (started : os.Started) (H : Type) (enc : TypeId × Value → H) :
    ReturnsInHanded {} Try.checked os 3 .any (Rows.slcStillSpec.pre6 enc Try.prog Try.f3 [] false) (Rows.slcStillSpec.post enc Try.prog Try.f3 false true false false) := by
  refine returnsInHanded_of_change (C := Try.checked) own started (by kernel_rfl) Try.func3
    (ChangeSpec.witness6 (C := Try.checked) (os := os) false ⟨#[], #[.slice none 0 0, .slice none 0 0, .agg #[.int .i64 0, .int .i64 0, .int .i64 0, .bool false]], []⟩ 8 (by kernel_rfl) (by kernel_rfl) (by kernel_rfl) (by kernel_rfl)) ?_
  intro W base args ds gs before hval hW _ _
  have hW' := hW
  obtain ⟨p, q, hA, hV, rfl, hfz, hnd⟩ := hW
  obtain ⟨rfl, rfl⟩ := trodVars_none hV
  have g3 : ds.length = 3 := (args_open slSh hA (fun j t v h1 h2 => hval j t v (by rw [← Array.getElem?_toList]; exact h1) (by rw [← Array.getElem?_toList]; exact h2))).2.2.1
  match ds, g3 with
  | [d1, d2, d3], _ =>
    refine (law_calls Try.func3 (body := bodyOf Try.f3) (by kernel_rfl) slSh hA hval (lab := 100) (n := 110) (n' := 300) (L' := Sx.look []) (gl := []) (ρ0 := conG) gtopN (globG _) (hold0 _ _) (fun e he => by cases he) (fun cs hcs hIs => ?_)).mono fun e W' ⟨he, hB⟩ => ⟨_, he, law_post (bt := 4) (by kernel_rfl) readable3 rfl (by kernel_rfl) (by kernel_rfl) hW' rfl hB⟩
    obtain ⟨_, _, e1, _, ⟨v1, rfl, _⟩, _, _, rfl, _, ⟨v2, rfl, _⟩, _, c0, rfl, _, ⟨_, _, rfl, _, ⟨f, rfl, _⟩, _, _, rfl, _, ⟨_, _, rfl, _, ⟨l, rfl, _⟩, _, z1, rfl, _, ⟨v, rfl, _⟩, h1⟩, _, z2, rfl, _, ⟨a, rfl⟩, h2⟩, h0⟩ := hIs
    have h0 : c0 = [] := h0
    have h1 : z1 = [] := h1
    have h2 : z2 = [] := h2
    subst h0; subst h1; subst h2
    have hcs2 : cs = [v1, v2, .int .i64 f, .int .i64 l, .int .i64 v, .bool a] := e1
    clear hcs e1
    subst hcs2
    refine RunsTo.start (cargs := [setV (lenOf v1), actV (lenOf v2), .agg (triT f l v a)]) ?_ ⟨⟨rfl, rfl⟩, ⟨rfl, rfl⟩, ⟨rfl, ⟨rfl, rfl⟩, rfl⟩, trivial⟩
    exact law_runs (lenOf v1) (lenOf v2) (fun is => Sx.intOf (rdOf W 2 (rd0 [v1, v2, .int .i64 f, .int .i64 l, .int .i64 v, .bool a]) 0 is 0)) (fun is => Sx.intOf (rdOf W 2 (rd0 [v1, v2, .int .i64 f, .int .i64 l, .int .i64 v, .bool a]) 0 is 1))
      (fun is => Sx.intOf (rdOf W 5 (rd0 [v1, v2, .int .i64 f, .int .i64 l, .int .i64 v, .bool a]) 1 is 0)) (fun is => Sx.intOf (rdOf W 5 (rd0 [v1, v2, .int .i64 f, .int .i64 l, .int .i64 v, .bool a]) 1 is 1))
      (fun is => Sx.intOf (rdOf W 5 (rd0 [v1, v2, .int .i64 f, .int .i64 l, .int .i64 v, .bool a]) 1 is 2)) (fun is => Sx.intOf (rdOf W 5 (rd0 [v1, v2, .int .i64 f, .int .i64 l, .int .i64 v, .bool a]) 1 is 3))
      (fun is => Sx.boolOf (rdOf W 5 (rd0 [v1, v2, .int .i64 f, .int .i64 l, .int .i64 v, .bool a]) 1 is 4)) f l v a

theorem slcStill_holds : Rows.SlcStillSaid :=
  OpenClaim.holds_of_wide 3 Try.f3 rfl rfl rfl rfl rfl rfl rfl ⟨rfl, rfl, rfl, rfl, rfl⟩ rfl rfl rfl rfl rfl (by kernel_rfl) Try.func3 (by kernel_rfl)
    (of_decide_eq_true (by kernel_rfl)) (by unfold Func.isWrapper; first | (rw [if_pos (by decide +kernel)]; kernel_rfl) | (rw [if_neg (by decide +kernel)]; exact ⟨rfl, rfl⟩))
    (fun os started H enc _ => sl_lifted os started H enc)
end Go.Proofs.Ytdmkdmaofgjelaa
