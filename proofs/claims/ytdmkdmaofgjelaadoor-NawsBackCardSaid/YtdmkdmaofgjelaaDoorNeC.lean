/- NawsBack: lifted. -/
import Derived.Test.YtdmkdmaofgjelaaDoorNdC
import Derived.Test.YtdmkdmaofgjelaaDoorSxV
import Derived.Test.YtdmkdmaofgjelaaDoorTie
import Derived.Test.YtdmkdmaofgjelaaDoorCards
import Derived.ProofKit
import Derived.LaidMore
import Derived.Stop.Joined
set_option maxRecDepth 100000
namespace Go.Proofs.YtdmkdmaofgjelaaDoor
open Go.ChangeShapes Go.WideShapes Go.ChangeAt Go.RowKit

theorem own : ownKnob Tryd.prog.godebug = none := by kernel_rfl

theorem door_met (os : Os) (args : Array Value) : laidMetH Tryd.prog Rows.nawsBackRow.laid ((World.doorLaid Tryd.prog 400 os).forCall (fun _ _ => 0) ⟨#[], args, []⟩).memory :=
  laidMetH_of_parts3 (fuel := 8) (laidMet_of_run' 8 (by kernel_rfl) (by kernel_rfl)) (by kernel_rfl) (by kernel_rfl)

open Go.Sx

def nbSh : List Sh := [.tc (.ki .i64) (.tc (.ki .i64) .t0), .tc (.ki .i64) (.tc (.ki .i64) .t0), .ta 4 (.ki .u8)]
theorem nb_sh : shsOf Tryd.prog Tryd.f3.params.toList = some nbSh := by kernel_rfl

theorem nb_cells {w : World} {cs : List Value} (h : (shAll nbSh).Is w cs) : ∃ a b c d e0 e1 e2 e3 : Int, cs = [.int .i64 a, .int .i64 b, .int .i64 c, .int .i64 d, .int .u8 e0, .int .u8 e1, .int .u8 e2, .int .u8 e3] ∧
    (0 ≤ e0 ∧ e0 < 256) ∧ (0 ≤ e1 ∧ e1 < 256) ∧ (0 ≤ e2 ∧ e2 < 256) ∧ (0 ≤ e3 ∧ e3 < 256) := by
  obtain ⟨_, _, rfl, _, ⟨_, _, rfl, _, ⟨a, rfl, _⟩, _, _, rfl, _, ⟨b, rfl, _⟩, h0⟩, _, _, rfl, _, ⟨_, _, rfl, _, ⟨c, rfl, _⟩, _, _, rfl, _, ⟨d, rfl, _⟩, h1⟩, _, _, rfl, _, ⟨f, rfl, hf⟩, h2⟩ := h
  simp only [Sh.Is] at h0 h1 h2
  subst h0; subst h1; subst h2
  obtain ⟨e0, f0, w0⟩ := (hf 0 (by decide)).2
  obtain ⟨e1, f1, w1⟩ := (hf 1 (by decide)).2
  obtain ⟨e2, f2, w2⟩ := (hf 2 (by decide)).2
  obtain ⟨e3, f3, w3⟩ := (hf 3 (by decide)).2
  have hr : ∀ {n : Int}, (Lit.int .u8 n).wf = true → 0 ≤ n ∧ n < 256 := fun {n} h => by have := bounds_u8 h; omega
  refine ⟨a, b, c, d, e0, e1, e2, e3, ?_, hr w0, hr w1, hr w2, hr w3⟩
  simp [List.range_succ, f0, f1, f2, f3]

theorem readable : ∀ t ∈ Tryd.f3.params.toList, Tryd.prog.readableRec t = true ∧ t < Tryd.prog.types.size := by
  have h : (Tryd.f3.params.toList.all fun t => Tryd.prog.readableRec t && decide (t < Tryd.prog.types.size)) = true := by kernel_rfl
  intro t ht
  have := List.all_eq_true.1 h t ht
  simpa using this

theorem wants : ∀ t ∈ Tryd.f3.params.toList, Tryd.prog.wantsStandIn t = false := by
  have h : (Tryd.f3.params.toList.all fun t => !Tryd.prog.wantsStandIn t) = true := by kernel_rfl
  intro t ht
  have := List.all_eq_true.1 h t ht
  simpa using this

theorem lifted (os : Os) (started : os.Started) (H : Type) (enc : TypeId × Value → H) :
    ReturnsInHanded {} Tryd.checked os 3 .any (fun w args => (Rows.nawsBackSpec.pre enc Tryd.prog Tryd.f3 [] false w args ∧ laidMetH Tryd.prog Rows.nawsBackRow.laid w) ∧ sizedMet enc Tryd.prog Tryd.f3 (OpenSpec.ofChange Rows.nawsBackSpec) false w args)
      (Rows.nawsBackSpec.post enc Tryd.prog Tryd.f3 false true false false) := by
  refine returnsInHanded_of_change_and (C := Tryd.checked) (X := fun w _ => laidMetH Tryd.prog Rows.nawsBackRow.laid w) (fun _ _ _ hh h => h.of_heap hh) own started (by kernel_rfl) Tryd.func3
    (ChangeSpec.witness_shaped (enc := enc) (C := Tryd.checked) (os := os) (X := fun w _ => laidMetH Tryd.prog Rows.nawsBackRow.laid w) false (World.doorLaid Tryd.prog 400 os) #[.agg #[.int .i64 0, .int .i64 0], .agg #[.int .i64 0, .int .i64 0], .agg #[.int .u8 0, .int .u8 0, .int .u8 0, .int .u8 0]] 8 rfl (World.shaped_of_RefB (by kernel_rfl) (by kernel_rfl)) (by kernel_rfl) (by kernel_rfl) (by kernel_rfl) (door_met os _)) ?_
  intro W base args ds gs before hval hW _ _ hL _
  have hW' := hW
  obtain ⟨p, q, hA, hV, rfl, hfz, hnd⟩ := hW
  obtain ⟨rfl, rfl⟩ := trodVars_none hV
  obtain ⟨g1, g2, g3, g4⟩ := args_open nb_sh hA (fun j t v h1 h2 => hval j t v (by rw [← Array.getElem?_toList]; exact h1) (by rw [← Array.getElem?_toList]; exact h2))
  obtain ⟨a, b, c, d, e0, e1, e2, e3, hcs, r0, r1, r2, r3⟩ := nb_cells g1
  obtain ⟨k1, _⟩ := g4 conG 200 0 (rd0 (args.toList.flatMap fun v => v.cells.toList)) (fun j _ => by simp [rd0]) ⟨⟨trivial, trivial, trivial⟩, ⟨trivial, trivial, trivial⟩, trivial, trivial⟩
  have hargs : args = #[.agg #[.int .i64 a, .int .i64 b], .agg #[.int .i64 c, .int .i64 d], .agg #[.int .u8 e0, .int .u8 e1, .int .u8 e2, .int .u8 e3]] := by
    apply Array.ext'
    rw [← k1, hcs]
    rfl
  match ds, g3 with
  | [d1, d2, d3], _ =>
    rw [hargs] at hW' ⊢
    refine (walk a b c d e0 e1 e2 e3 r0 r1 r2 r3 W).mono fun e W' ⟨he, hB⟩ => ?_
    exact ⟨_, he, law_post (bt := 4) (by kernel_rfl) (fun t ht => readable t ht) rfl (by kernel_rfl) (by kernel_rfl) hW' rfl hB⟩

theorem nawsBack_holds : Rows.NawsBackSaid :=
  OpenClaim.holds_of_wide 3 Tryd.f3 rfl rfl rfl rfl rfl rfl rfl ⟨rfl, rfl, rfl, rfl, rfl⟩ rfl rfl rfl rfl rfl (by kernel_rfl) Tryd.func3 (by kernel_rfl)
    (of_decide_eq_true (by kernel_rfl)) (by unfold Func.isWrapper; first | (rw [if_pos (by decide +kernel)]; kernel_rfl) | (rw [if_neg (by decide +kernel)]; exact ⟨rfl, rfl⟩))
    (fun os started H enc _ => lifted os started H enc)

theorem nawsBack_card_holds : Rows.NawsBackCardSaid :=
  Claim7.holds_tied_plain_at .later [] [.sentinel, .sentinel, .sentinel] true (true, "dd1cba97f90618458ea6c9157597c81a3796c50eee34087de253fca5d61675c3") true
    nawsBack_holds (fun _ h => by cases h) (by kernel_rfl) (fun _ h => by cases h) nawsBack_row_tie rfl ⟨rfl, rfl⟩ (by kernel_rfl) rfl
    (fun f fn hf hfn => by
      obtain rfl : f = 3 := Option.some.inj ((show Tryd.prog.funcNamed "truchman/truchmanlaw12.NawsBack" = some 3 by kernel_rfl).symm.trans hf) |>.symm
      obtain rfl : fn = Tryd.f3 := (Option.some.inj (Tryd.func3.symm.trans hfn)).symm
      exact ⟨by kernel_rfl, fun j t ht => wants t (List.mem_of_getElem? (by rw [Array.getElem?_toList]; exact ht))⟩)
    (by kernel_rfl)
end Go.Proofs.YtdmkdmaofgjelaaDoor
