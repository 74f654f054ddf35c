/- Grammar: the law GramItems, joined. -/
import Derived.Test.YtcphocfnhekdaaaDoorQgC
import Derived.Test.YtcphocfnhekdaaaDoorSyY
import Derived.Test.YtcphocfnhekdaaaDoorSyPl
import Derived.Lay
import Derived.Test.YtcphocfnhekdaaaDoorTie
import Derived.Test.YtcphocfnhekdaaaDoorCards
set_option linter.unusedSimpArgs false
set_option linter.unusedVariables false
set_option maxRecDepth 100000
namespace Go.Proofs.YtcphocfnhekdaaaDoor
open Go.Sx GramR

theorem bytes_sh (B : Ix → Int) (N a n : Nat) (h : a + n ≤ N) : bytesOf (fun is => B (shIx a is)) [] 0 n = ((bytesOf B [] 0 N).drop a).take n := by
  apply List.ext_getElem?
  intro j
  by_cases hj : j < n
  · rw [List.getElem?_take_of_lt hj, List.getElem?_drop]
    have e1 := bytesOf_get (B := fun is => B (shIx a is)) (is := []) (st := 0) (n := n) hj
    have e2 := bytesOf_get (B := B) (is := []) (st := 0) (n := N) (k := a + j) (by omega)
    rw [List.getElem?_eq_getElem (by rw [bytesOf_len]; exact hj), List.getElem?_eq_getElem (by rw [bytesOf_len]; omega)]
    rw [List.getD_eq_getElem?_getD, List.getElem?_eq_getElem (by rw [bytesOf_len]; exact hj), Option.getD_some] at e1
    rw [List.getD_eq_getElem?_getD, List.getElem?_eq_getElem (by rw [bytesOf_len]; omega), Option.getD_some] at e2
    rw [e1, e2]
    simp [shIx]
  · rw [List.getElem?_eq_none (by rw [bytesOf_len]; omega), List.getElem?_eq_none (by rw [List.length_take]; omega)]
theorem bnd_sh {B : Ix → Int} {N a n : Nat} (hB : bndB B N = true) (h : a + n ≤ N) : bndB (fun is => B (shIx a is)) n = true := bndB_of fun i hi => bndB_ok hB (show a + i < N by omega)
theorem pt_of {raw : Bool} {n : Nat} {B : Ix → Int} {l : List Itm} {m : Nat} (h : parseI raw (bytesOf B [] 0 n) = some (l, m)) : ptT raw n B = l ∧ ptM raw n B = some m := by
  rw [allI_parse] at h
  unfold ptT ptM
  cases hz : (allI raw (bytesOf B [] 0 n)).2 with
  | none => rw [hz] at h; cases h
  | some k =>
    rw [hz] at h
    simp only [Option.some.injEq, Prod.mk.injEq] at h
    exact ⟨h.1, by rw [h.2]⟩
theorem parse_of {raw : Bool} {n : Nat} {B : Ix → Int} {m : Nat} (h : ptM raw n B = some m) : parseI raw (bytesOf B [] 0 n) = some (ptT raw n B, m) := by
  rw [allI_parse]
  unfold ptM at h
  rw [h]; rfl
theorem endI_last : ∀ (l : List Itm) (a : Nat), endI a l = if l = [] then a else (l.getD (l.length - 1) zIt).2.2
  | [], a => rfl
  | [(x, f, e)], a => rfl
  | (x, f, e) :: y :: r, a => by
    have := endI_last (y :: r) e
    rw [if_neg (by simp)] at this
    simp only [endI] at this ⊢
    rw [if_neg (by simp), this]
    simp
theorem gramItems_law (t0 t1 : List UInt8) (N : Nat) (raw : Bool) (B : Ix → Int) (hB : ∀ i, i < N → 0 ≤ B [i] ∧ B [i] < 256) : RunsTo Tryd.prog 3 [.code (bodyOf Tryd.f3)] (envOf [vL 100 1 N, vB raw] Tryd.f3.ntmps) (Sx.look (sentEnts 19 144 [(4, t0), (0, t1)] ++ rB 100 N B ++ ([]))) 110 (YES) (Sx.look []) 12000 := by
  by_cases hN : 400 < N
  · exact giLong t0 t1 N raw B hN
  have hN : N ≤ 400 := by omega
  have hB := bndB_of hB
  have hlen := bytesOf_len B [] 0 N
  cases hz : ptM raw N B with
  | none => exact giForm t0 t1 N raw B hN hB (by rw [hz]; rfl) (by unfold restN; rw [hz]; rfl)
  | some m =>
    have hp := parse_of hz
    obtain ⟨e1, e2, e3, e4⟩ := read_ok raw _ 0 _ _ _ (Nat.lt_succ_self _) hp
    have hl := pt_len raw N B
    have hrest : restN raw N B = m := by unfold restN; rw [hz]; rfl
    generalize hT : ptT raw N B = T at *
    refine giStart t0 t1 N raw B T hN hB (by rw [hz]; rfl) hT hl ?_
    suffices q : ∀ (k i a : Nat), i + k = T.length → a = (if i = 0 then 0 else (T.getD (i - 1) zIt).2.2) → RunsTo Tryd.prog 3 (headOf Tryd.f3 0) (envAt Tryd.f3.ntmps ([(0, vL 100 1 N), (1, vB raw), (7, vN (a : Nat)), (34, vL 121 6 T.length), (35, vN T.length), (36, vN (i : Nat))])) (Sx.look (sentEnts 19 144 [(4, t0), (0, t1)] ++ rB 100 N B ++ (itE 121 122 T))) 110 (YES) (Sx.look []) 12000 from q T.length 0 0 (by omega) rfl
    intro k
    induction k with
    | zero =>
      intro i a hi ha
      have hae : a = endI 0 T := by
        rw [ha, endI_last]
        by_cases h0 : T = []
        · subst h0; rw [if_pos rfl, if_pos (by simpa using hi)]
        · have : T.length ≠ 0 := fun e => h0 (List.length_eq_zero_iff.1 e)
          rw [if_neg (by omega), if_neg h0, show i = T.length by omega]
      rw [← hae] at e1 e3
      have hs := bytes_sh B N a (N - a) (by omega)
      rw [List.take_of_length_le (by rw [List.length_drop, hlen]; omega)] at hs
      have hlf := left raw ((bytesOf B [] 0 N).drop a) (by simpa using e3)
      rw [← hs] at hlf
      have h2 := (pt_of hlf).2
      refine giEnd t0 t1 N raw B T i a hN hB (by omega) (by omega) (by omega) ?_ (bnd_sh hB (by omega))
      unfold restN
      rw [h2, Option.getD_some, bytesOf_len]
    | succ k ih =>
      intro i a hi ha
      have hiT : i < T.length := by omega
      obtain ⟨⟨x, f, t⟩, hx⟩ : ∃ y : Itm, T.getD i zIt = y := ⟨_, rfl⟩
      have hg : T[i]? = some (x, f, t) := by rw [List.getElem?_eq_getElem hiT, ← hx, List.getD_eq_getElem?_getD, List.getElem?_eq_getElem hiT, Option.getD_some]
      obtain ⟨_, b2, b3, b4, b5⟩ := e4 i x f t hg
      have hfa : f = a := by
        rw [b5, ha]
        by_cases h0 : i = 0
        · rw [if_pos h0, if_pos h0]
        · rw [if_neg h0, if_neg h0]
          simp only [List.getD_eq_getElem?_getD, List.getElem?_eq_getElem (show i - 1 < T.length by omega), Option.getD_some]
      subst hfa
      rw [hlen] at b3
      rw [Nat.sub_zero] at b4
      have hs := bytes_sh B N f (t - f) (by omega)
      have next := ih (i + 1) t (by omega) (by rw [if_neg (by omega), show i + 1 - 1 = i by omega, hx])
      have hb2 := bnd_sh (n := t - f) hB (show f + (t - f) ≤ N by omega)
      by_cases h13 : x.kind = 1 ∧ x.code = 13 ∧ raw = false
      · refine giR1 t0 t1 N raw B T i f t x hN hB hiT hl hx b2 (by omega) h13.2.2 h13.1 h13.2.1 ?_ hb2 next
        rcases item_long raw _ x (t - f) (t - f) b4 (Nat.le_refl _) with hk | ⟨_, hn, hk⟩
        · have hl2 : (((bytesOf B [] 0 N).drop f).take (t - f)).length = t - f := by rw [List.length_take, List.length_drop, hlen]; omega
          have hq : parseI raw (((bytesOf B [] 0 N).drop f).take (t - f)) = some ([(x, 0, t - f)], 0) := by
            unfold parseI
            rw [hl2]
            simp only [readI]
            rw [if_neg (fun e => by rw [e] at hl2; simp at hl2; omega), hk]
            have hd : (((bytesOf B [] 0 N).drop f).take (t - f)).drop (t - f) = [] := List.drop_eq_nil_of_le (by omega)
            simp only [hd]
            obtain ⟨k, hk⟩ : ∃ k, t - f = k + 1 := ⟨t - f - 1, by omega⟩
            rw [hk]
            simp [readI]
          rw [← hs] at hq
          rw [(pt_of hq).2]; rfl
        · have hq := left raw (((bytesOf B [] 0 N).drop f).take (t - f)) (.inr (by rw [hn]; exact hk))
          rw [← hs] at hq
          rw [(pt_of hq).2]; rfl
      · have hq := alone raw _ x (t - f) b4 h13
        rw [← hs] at hq
        have hp2 := (pt_of hq).1
        have hm2 : (ptM raw (t - f) (fun is => B (shIx f is))).isSome = true := by rw [(pt_of hq).2]; rfl
        by_cases k1 : x.kind = 1
        · by_cases c1 : x.code = 13
          · have hr : raw = true := by
              cases raw with
              | true => rfl
              | false => exact absurd ⟨k1, c1, rfl⟩ h13
            exact giR4 t0 t1 N raw B T i f t x hN hB hiT hl hx b2 (by omega) k1 c1 hr hp2 hm2 hb2 next
          · exact giR3 t0 t1 N raw B T i f t x hN hB hiT hl hx b2 (by omega) k1 c1 hp2 hm2 hb2 next
        · exact giR2 t0 t1 N raw B T i f t x hN hB hiT hl hx b2 (by omega) k1 hp2 hm2 hb2 next
end Go.Proofs.YtcphocfnhekdaaaDoor

set_option maxRecDepth 100000
set_option linter.unusedSimpArgs false
set_option linter.unusedVariables false
namespace Go.Proofs.YtcphocfnhekdaaaDoor
open Go.ChangeShapes Go.WideShapes Go.ChangeAt Go.RowKit
open Go.Sx

theorem gramItems_sh : shsOf Tryd.prog Tryd.f3.params.toList = some [.sl (.ki .u8), .kb] := by kernel_rfl

theorem gramItems_star : "*" ++ "errors.errorString" = "*errors.errorString" := by decide
theorem gramItems_row (u : TypeId) (h : Tryd.prog.typeName? 3 u = some "*errors.errorString") : u = 144 :=
  typeName_ptr_named (nm := "errors.errorString") (by rw [gramItems_star]; kernel_rfl) (by kernel_rfl) (by decide) u (by rw [gramItems_star]; exact h)

theorem gramItems_errTy : ErrTy Tryd.prog "*errors.errorString" 26 144 169 9 := errTy_of (by kernel_rfl) gramItems_row (by kernel_rfl) (by kernel_rfl) (by kernel_rfl) (by kernel_rfl) (by kernel_rfl)

theorem gramItems_own : ownKnob Tryd.prog.godebug = none := by kernel_rfl
theorem gramItems_met (os : Os) (args : Array Value) : laidMetH Tryd.prog Rows.gramItemsRow.laid ((World.laidAll Tryd.prog os Rows.gramItemsRow.laid).forCall (fun _ _ => 0) ⟨#[], args, []⟩).memory := by
  rw [MakeChecks.laidMetH_plain _ _ _ (by kernel_rfl)]; exact laidMet_laidAll _ (by kernel_rfl) (by kernel_rfl)
theorem gramItems_plain (w : World) : laidMetH Tryd.prog Rows.gramItemsRow.laid w = laidMet Tryd.prog Rows.gramItemsRow.laid w := MakeChecks.laidMetH_plain _ _ _ (by kernel_rfl)

def gramItems_texts : List (Nat × List UInt8) := [(4, [115, 111, 109, 101, 116, 104, 105, 110, 103, 32, 105, 115, 32, 109, 105, 115, 115, 105, 110, 103, 32, 97, 116, 32, 116, 104, 101, 32, 101, 110, 100]), (0, [105, 116, 32, 105, 115, 32, 110, 111, 116, 32, 111, 102, 32, 105, 116, 115, 32, 102, 111, 114, 109])]
theorem gramItems_sent : sentOf Tryd.prog "*errors.errorString" Rows.gramItemsRow.laid = some gramItems_texts := by kernel_rfl

theorem gramItems_readable : ∀ t ∈ Tryd.f3.params.toList, Tryd.prog.readableRec t = true ∧ t < Tryd.prog.types.size := by
  have h : (Tryd.f3.params.toList.all fun t => Tryd.prog.readableRec t && decide (t < Tryd.prog.types.size)) = true := by kernel_rfl
  intro t ht
  have := List.all_eq_true.1 h t ht
  simpa using this

theorem gramItems_wants : ∀ t ∈ Tryd.f3.params.toList, Tryd.prog.wantsStandIn t = false := by
  have h : (Tryd.f3.params.toList.all fun t => !Tryd.prog.wantsStandIn t) = true := by kernel_rfl
  intro t ht
  have := List.all_eq_true.1 h t ht
  simpa using this

theorem gramItems_lifted (os : Os) (started : os.Started) (H : Type) (enc : TypeId × Value → H) :
    ReturnsInHanded {} Tryd.checked os 3 .any (fun w args => (Rows.gramItemsSpec.pre enc Tryd.prog Tryd.f3 [] false w args ∧ laidMetH Tryd.prog Rows.gramItemsRow.laid w) ∧ sizedMet enc Tryd.prog Tryd.f3 (OpenSpec.ofChange Rows.gramItemsSpec) false w args)
      (Rows.gramItemsSpec.post enc Tryd.prog Tryd.f3 false true false false) := by
  refine returnsInHanded_of_change_and (C := Tryd.checked) (X := fun w _ => laidMetH Tryd.prog Rows.gramItemsRow.laid w) (fun _ _ _ hh h => h.of_heap hh) gramItems_own started (by kernel_rfl) Tryd.func3
    (ChangeSpec.witness_shaped (enc := enc) (C := Tryd.checked) (os := os) (X := fun w _ => laidMetH Tryd.prog Rows.gramItemsRow.laid w) false (World.laidAll Tryd.prog os Rows.gramItemsRow.laid) #[.slice none 0 0, .bool false] 8 (World.laidAll_os _ _ _) (World.shaped_of_ZipB (by kernel_rfl) (by kernel_rfl)) (by kernel_rfl) (by kernel_rfl) (by kernel_rfl) (gramItems_met os _)) ?_
  intro W base args ds gs before hval hW _ _ hL _
  have hW' := hW
  obtain ⟨p, q, hA, hV, rfl, hfz, hnd⟩ := hW
  obtain ⟨rfl, rfl⟩ := trodVars_none hV
  rw [gramItems_plain] at hL
  obtain ⟨s1, s2, s3⟩ := sents_open gramItems_errTy hL gramItems_sent (by kernel_rfl)
  have hG : Tryd.prog.globals.size = 19 := by kernel_rfl
  rw [hG] at s2 s3
  have g3 : ds.length = 2 := (args_open gramItems_sh hA (fun j t v h1 h2 => hval j t v (by rw [← Array.getElem?_toList]; exact h1) (by rw [← Array.getElem?_toList]; exact h2))).2.2.1
  match ds, g3 with
  | [d1, d2], _ =>
    refine (law_calls Tryd.func3 (body := bodyOf Tryd.f3) (by kernel_rfl) gramItems_sh hA hval (lab := 100) (n := 110) (n' := 12000) (L' := Sx.look []) gtopP s1 s2 (fun e he => ?_) (fun cs hcs hIs => ?_)).mono fun e W' ⟨he, hB⟩ => ⟨_, he, law_post (bt := 4) (by kernel_rfl) gramItems_readable rfl (by kernel_rfl) (by kernel_rfl) hW' rfl hB⟩
    · obtain ⟨a1, a2, a3⟩ := s3 e he
      exact ⟨a1, Nat.lt_of_lt_of_le a2 gtopP, fun l hl => Nat.lt_of_lt_of_le (a3 l hl) gtopP⟩
    · clear hcs
      have hX : ∀ i, i < lenOf (Go.Sx.rd0 cs [] 0) → 0 ≤ Sx.intOf (rdOf W 1 (Go.Sx.rd0 cs) 0 [i] 0) ∧ Sx.intOf (rdOf W 1 (Go.Sx.rd0 cs) 0 [i] 0) < 256 := by
        obtain ⟨a1, r1, e1, l1, he, hrest⟩ := hIs
        have he2 := he
        obtain ⟨v, e4, _⟩ := he2
        rw [e4] at he
        have e5 : Go.Sx.rd0 cs [] 0 = v := by
          show cs.getD 0 undef = v
          rw [e1, e4]
          rfl
        intro i hi
        rw [e5] at hi
        exact sl_u8 he e5 i hi
      refine RunsTo.start (cargs := [.v (.vl 100 (fun _ => 0) 1 [] (fun _ => lenOf (Go.Sx.rd0 cs [] 0))), .v (.vb fun _ => (Sx.boolOf (Go.Sx.rd0 cs [] 1)))]) ?_ ⟨⟨rfl, rfl⟩, rfl, trivial⟩
      exact gramItems_law _ _ (lenOf (Go.Sx.rd0 cs [] 0)) (Sx.boolOf (Go.Sx.rd0 cs [] 1)) (fun is => Sx.intOf (rdOf W 1 (Go.Sx.rd0 cs) 0 is 0)) hX

theorem gramItems_holds : Rows.GramItemsSaid :=
  OpenClaim.holds_of_wide 3 Tryd.f3 rfl rfl rfl rfl rfl rfl rfl ⟨rfl, rfl, rfl, rfl, rfl⟩ rfl rfl rfl rfl rfl (by kernel_rfl) Tryd.func3 (by kernel_rfl)
    (of_decide_eq_true (by kernel_rfl)) (by unfold Func.isWrapper; first | (rw [if_pos (by decide +kernel)]; kernel_rfl) | (rw [if_neg (by decide +kernel)]; exact ⟨rfl, rfl⟩))
    (fun os started H enc _ => gramItems_lifted os started H enc)

theorem gramItems_card_holds : Rows.GramItemsCardSaid :=
  Claim7.holds_tied_plain_at .later [] [.sentinel, .sentinel] true (true, "f530cd95f545498e1079217162ceacc12c579589fcdd7c478fda70c03005852d") true
    gramItems_holds (fun _ h => by cases h) (by kernel_rfl) (fun _ h => by cases h) gramItems_row_tie rfl ⟨rfl, rfl⟩ (by kernel_rfl) rfl
    (fun f fn hf hfn => by
      obtain rfl : f = 3 := Option.some.inj ((show Tryd.prog.funcNamed "truchman/truchmanlaw07.GramItems" = some 3 by kernel_rfl).symm.trans hf) |>.symm
      obtain rfl : fn = Tryd.f3 := (Option.some.inj (Tryd.func3.symm.trans hfn)).symm
      exact ⟨by kernel_rfl, fun j t ht => gramItems_wants t (List.mem_of_getElem? (by rw [Array.getElem?_toList]; exact ht))⟩)
    (by kernel_rfl)
end Go.Proofs.YtcphocfnhekdaaaDoor

