/- BufferLast: lifted; the card. -/
import Derived.Test.YtdmkdmaofgjelaaDoorBcC
import Derived.Test.YtdmkdmaofgjelaaDoorSxY
import Derived.Test.YtdmkdmaofgjelaaDoorTie
import Derived.Test.YtdmkdmaofgjelaaDoorCards
set_option maxRecDepth 100000
set_option linter.unusedSimpArgs false
set_option linter.unusedVariables false
namespace Go.Proofs.YtdmkdmaofgjelaaDoor
open Go.ChangeShapes Go.WideShapes Go.ChangeAt Go.RowKit
open Go.Sx

theorem blSh : shsOf Tryd.prog Tryd.f4.params.toList = some [.ki .i64, .sl (.tc (.ki .i64) (.tc (.ki .i64) (.tc (.sl (.ki .u8)) .t0)))] := by kernel_rfl

theorem star : "*" ++ "errors.errorString" = "*errors.errorString" := by decide
theorem row140 (u : TypeId) (h : Tryd.prog.typeName? 3 u = some "*errors.errorString") : u = 140 :=
  typeName_ptr_named (nm := "errors.errorString") (by rw [star]; kernel_rfl) (by kernel_rfl) (by decide) u (by rw [star]; exact h)

theorem errTy : ErrTy Tryd.prog "*errors.errorString" 27 140 164 9 := errTy_of (by kernel_rfl) row140 (by kernel_rfl) (by kernel_rfl) (by kernel_rfl) (by kernel_rfl) (by kernel_rfl)

theorem own : ownKnob Tryd.prog.godebug = none := by kernel_rfl
theorem bl_met (os : Os) (args : Array Value) : laidMetH Tryd.prog Rows.bufferLastRow.laid ((World.doorLaid Tryd.prog 400 os).forCall (fun _ _ => 0) ⟨#[], args, []⟩).memory :=
  laidMetH_of_parts3 (fuel := 8) (laidMet_of_run' 8 (by kernel_rfl) (by kernel_rfl)) (by kernel_rfl) (by kernel_rfl)
theorem bl_plain (w : World) : laidMetH Tryd.prog Rows.bufferLastRow.laid w = laidMet Tryd.prog Rows.bufferLastRow.laid w := MakeChecks.laidMetH_plain _ _ _ (by kernel_rfl)

def rangeText : List UInt8 := [97, 32, 110, 117, 109, 98, 101, 114, 32, 105, 115, 32, 111, 117, 116, 32, 111, 102, 32, 105, 116, 115, 32, 114, 97, 110, 103, 101]
theorem bl_sent : sentOf Tryd.prog "*errors.errorString" Rows.bufferLastRow.laid = some [(2, rangeText)] := by kernel_rfl

/-- An act's bytes and numbers, read off the cells. -/
theorem act_facts {W : World} {v : Value} (h : (Sh.sl (.tc (.ki .i64) (.tc (.ki .i64) (.tc (.sl (.ki .u8)) .t0)))).Is W [v]) (g : Rd) (o : Nat) (hg : ∀ is, g is o = v) :
    (∀ i, i < lenOf v → ∀ j, j < lenOf (rdOf W 3 g o [i] 2) → 0 ≤ Sx.intOf (rdOf W 1 (rdOf W 3 g o) 2 [i, j] 0) ∧ Sx.intOf (rdOf W 1 (rdOf W 3 g o) 2 [i, j] 0) < 256) ∧
    ∀ i, i < lenOf v → -9223372036854775808 ≤ Sx.intOf (rdOf W 3 g o [i] 1) ∧ Sx.intOf (rdOf W 3 g o [i] 1) < 9223372036854775808 := by
  obtain ⟨v', hv', _, _, _, _, hrows⟩ := h
  have hv' : v = v' := by simpa using hv'
  subst hv'
  have hrow : ∀ i, i < lenOf v → ∃ (a b : Int) (u : Value), (Lit.int .i64 b).wf = true ∧ (Sh.sl (.ki .u8)).Is W [u] ∧ rowsOf W 3 v i = [.int .i64 a, .int .i64 b, u] := fun i hi => by
    obtain ⟨_, _, e, _, ⟨a, rfl, _⟩, _, _, rfl, _, ⟨b, rfl, hb⟩, _, _, rfl, _, hu, h0⟩ := hrows i hi
    simp only [Sh.Is] at h0
    subst h0
    have hu' := hu
    obtain ⟨u, rfl, _⟩ := hu
    exact ⟨a, b, u, hb, hu', e⟩
  have hrd : ∀ i j, rdOf W 3 g o [i] j = (rowsOf W 3 v i).getD j undef := fun i j => by simp [rdOf, hg]
  refine ⟨fun i hi j hj => ?_, fun i hi => ?_⟩
  · obtain ⟨a, b, u, _, hu, e⟩ := hrow i hi
    have h2 : rdOf W 3 g o [i] 2 = u := by rw [hrd, e]; rfl
    rw [h2] at hj
    obtain ⟨u', hu', _, _, _, _, hbytes⟩ := hu
    have hu' : u = u' := by simpa using hu'
    subst hu'
    obtain ⟨n, hn, hwf⟩ := hbytes j hj
    have h3 : rdOf W 1 (rdOf W 3 g o) 2 [i, j] 0 = .int .u8 n := by
      have : rdOf W 1 (rdOf W 3 g o) 2 [i, j] 0 = (rowsOf W 1 (rdOf W 3 g o [i] 2) j).getD 0 undef := rfl
      rw [this, h2]
      have e1 : (Sh.ki .u8).size = 1 := rfl
      rw [e1] at hn
      rw [hn]; rfl
    rw [h3]
    have := bounds_u8 hwf
    simp only [Sx.intOf]; omega
  · obtain ⟨a, b, u, hb, hu, e⟩ := hrow i hi
    rw [hrd, e]
    have := bounds_i64 hb
    show -9223372036854775808 ≤ b ∧ b < 9223372036854775808
    omega

theorem readable4 : ∀ t ∈ Tryd.f4.params.toList, Tryd.prog.readableRec t = true ∧ t < Tryd.prog.types.size := by
  have h : (Tryd.f4.params.toList.all fun t => Tryd.prog.readableRec t && decide (t < Tryd.prog.types.size)) = true := by kernel_rfl
  intro t ht
  have := List.all_eq_true.1 h t ht
  simpa using this

theorem wants4 : ∀ t ∈ Tryd.f4.params.toList, Tryd.prog.wantsStandIn t = false := by
  have h : (Tryd.f4.params.toList.all fun t => !Tryd.prog.wantsStandIn t) = true := by kernel_rfl
  intro t ht
  have := List.all_eq_true.1 h t ht
  simpa using this

theorem bl_lifted (os : Os) (started : os.Started) (H : Type) (enc : TypeId × Value → H) :
    ReturnsInHanded {} Tryd.checked os 4 .any (fun w args => (Rows.bufferLastSpec.pre enc Tryd.prog Tryd.f4 [] false w args ∧ laidMetH Tryd.prog Rows.bufferLastRow.laid w) ∧ sizedMet enc Tryd.prog Tryd.f4 (OpenSpec.ofChange Rows.bufferLastSpec) false w args)
      (Rows.bufferLastSpec.post enc Tryd.prog Tryd.f4 false true false false) := by
  refine returnsInHanded_of_change_and (C := Tryd.checked) (X := fun w _ => laidMetH Tryd.prog Rows.bufferLastRow.laid w) (fun _ _ _ hh h => h.of_heap hh) own started (by kernel_rfl) Tryd.func4
    (ChangeSpec.witness_shaped (enc := enc) (C := Tryd.checked) (os := os) (X := fun w _ => laidMetH Tryd.prog Rows.bufferLastRow.laid w) false (World.doorLaid Tryd.prog 400 os) #[.int .i64 0, .slice none 0 0] 8 rfl (World.shaped_of_RefB (by kernel_rfl) (by kernel_rfl)) (by kernel_rfl) (by kernel_rfl) (by kernel_rfl) (bl_met os _)) ?_
  intro W base args ds gs before hval hW _ _ hL _
  have hW' := hW
  obtain ⟨p, q, hA, hV, rfl, hfz, hnd⟩ := hW
  obtain ⟨rfl, rfl⟩ := trodVars_none hV
  rw [bl_plain] at hL
  obtain ⟨s1, s2, s3⟩ := sents_open errTy hL bl_sent (by kernel_rfl)
  have hG : Tryd.prog.globals.size = 16 := by kernel_rfl
  rw [hG] at s2 s3
  have g3 : ds.length = 2 := (args_open blSh hA (fun j t v h1 h2 => hval j t v (by rw [← Array.getElem?_toList]; exact h1) (by rw [← Array.getElem?_toList]; exact h2))).2.2.1
  match ds, g3 with
  | [d1, d2], _ =>
    refine (law_calls Tryd.func4 (body := bodyOf Tryd.f4) (by kernel_rfl) blSh hA hval (lab := 100) (n := 110) (n' := 200) (L' := Sx.look []) gtopP s1 s2 (fun e he => ?_) (fun cs hcs hIs => ?_)).mono fun e W' ⟨he, hB⟩ => ⟨_, he, law_post (bt := 4) (by kernel_rfl) readable4 rfl (by kernel_rfl) (by kernel_rfl) hW' rfl hB⟩
    · obtain ⟨a1, a2, a3⟩ := s3 e he
      exact ⟨a1, Nat.lt_of_lt_of_le a2 gtopP, fun l hl => Nat.lt_of_lt_of_le (a3 l hl) gtopP⟩
    · obtain ⟨_, _, e1, _, ⟨most, rfl, _⟩, _, c0, rfl, _, hacts, h0⟩ := hIs
      have h0 : c0 = [] := h0
      subst h0
      have hacts' := hacts
      obtain ⟨v, rfl, _⟩ := hacts
      have hcs2 : cs = [.int .i64 most, v] := e1
      clear hcs e1
      subst hcs2
      obtain ⟨f1, f2⟩ := act_facts hacts' (rd0 [.int .i64 most, v]) 1 (fun _ => rfl)
      refine RunsTo.start (cargs := [.v (.vi .i64 fun _ => most), actV (lenOf v)]) ?_ ⟨rfl, ⟨rfl, rfl⟩, trivial⟩
      exact law_runs rangeText most (lenOf v) (fun is => Sx.intOf (rdOf W 3 (rd0 [.int .i64 most, v]) 1 is 0)) (fun is => Sx.intOf (rdOf W 3 (rd0 [.int .i64 most, v]) 1 is 1)) (fun is => lenOf (rdOf W 3 (rd0 [.int .i64 most, v]) 1 is 2))
        (fun is => Sx.intOf (rdOf W 1 (rdOf W 3 (rd0 [.int .i64 most, v]) 1) 2 is 0)) f1 f2

theorem bufferLast_holds : Rows.BufferLastSaid :=
  OpenClaim.holds_of_wide 4 Tryd.f4 rfl rfl rfl rfl rfl rfl rfl ⟨rfl, rfl, rfl, rfl, rfl⟩ rfl rfl rfl rfl rfl (by kernel_rfl) Tryd.func4 (by kernel_rfl)
    (of_decide_eq_true (by kernel_rfl)) (by unfold Func.isWrapper; first | (rw [if_pos (by decide +kernel)]; kernel_rfl) | (rw [if_neg (by decide +kernel)]; exact ⟨rfl, rfl⟩))
    (fun os started H enc _ => bl_lifted os started H enc)

theorem bufferLast_card_holds : Rows.BufferLastCardSaid :=
  Claim7.holds_tied_plain_at .later [] [.sentinel] true (true, "dd1cba97f90618458ea6c9157597c81a3796c50eee34087de253fca5d61675c3") true
    bufferLast_holds (fun _ h => by cases h) (by kernel_rfl) (fun _ h => by cases h) bufferLast_row_tie rfl ⟨rfl, rfl⟩ (by kernel_rfl) rfl
    (fun f fn hf hfn => by
      obtain rfl : f = 4 := Option.some.inj ((show Tryd.prog.funcNamed "truchman/truchmanlaw28.BufferLast" = some 4 by kernel_rfl).symm.trans hf) |>.symm
      obtain rfl : fn = Tryd.f4 := (Option.some.inj (Tryd.func4.symm.trans hfn)).symm
      exact ⟨by kernel_rfl, fun j t ht => wants4 t (List.mem_of_getElem? (by rw [Array.getElem?_toList]; exact ht))⟩)
    (by kernel_rfl)
end Go.Proofs.YtdmkdmaofgjelaaDoor
