/- Grammar: the law GramPrefix, joined. -/
import Derived.Test.YtcphocfnhekdaaaDoorQjC
import Derived.Test.YtcphocfnhekdaaaDoorSyY
import Derived.Test.YtcphocfnhekdaaaDoorSyPl
import Derived.Lay
import Derived.Test.YtcphocfnhekdaaaDoorTie
import Derived.Test.YtcphocfnhekdaaaDoorCards
set_option linter.unusedSimpArgs false
set_option linter.unusedVariables false
set_option maxRecDepth 100000
namespace Go.Proofs.YtcphocfnhekdaaaDoor
open Go.Sx GramR

theorem pt_of {raw : Bool} {n : Nat} {B : Ix → Int} {l : List Itm} {m : Nat} (h : parseI raw (bytesOf B [] 0 n) = some (l, m)) : ptT raw n B = l ∧ ptM raw n B = some m := by
  rw [allI_parse] at h
  unfold ptT ptM
  cases hz : (allI raw (bytesOf B [] 0 n)).2 with
  | none => rw [hz] at h; cases h
  | some k =>
    rw [hz] at h
    simp only [Option.some.injEq, Prod.mk.injEq] at h
    exact ⟨h.1, by rw [h.2]⟩
theorem parse_of {raw : Bool} {n : Nat} {B : Ix → Int} {m : Nat} (h : ptM raw n B = some m) : parseI raw (bytesOf B [] 0 n) = some (ptT raw n B, m) := by
  rw [allI_parse]
  unfold ptM at h
  rw [h]; rfl
theorem endI_last : ∀ (l : List Itm) (a : Nat), endI a l = if l = [] then a else (l.getD (l.length - 1) zIt).2.2
  | [], a => rfl
  | [(x, f, e)], a => rfl
  | (x, f, e) :: y :: r, a => by
    have := endI_last (y :: r) e
    rw [if_neg (by simp)] at this
    simp only [endI] at this ⊢
    rw [if_neg (by simp), this]
    simp
theorem bytes_take (B : Ix → Int) (N n : Nat) (h : n ≤ N) : bytesOf B [] 0 n = (bytesOf B [] 0 N).take n := by
  apply List.ext_getElem?
  intro j
  by_cases hj : j < n
  · rw [List.getElem?_take_of_lt hj]
    have e1 := bytesOf_get (B := B) (is := []) (st := 0) (n := n) hj
    have e2 := bytesOf_get (B := B) (is := []) (st := 0) (n := N) (k := j) (by omega)
    rw [List.getElem?_eq_getElem (by rw [bytesOf_len]; exact hj), List.getElem?_eq_getElem (by rw [bytesOf_len]; omega)]
    rw [List.getD_eq_getElem?_getD, List.getElem?_eq_getElem (by rw [bytesOf_len]; exact hj), Option.getD_some] at e1
    rw [List.getD_eq_getElem?_getD, List.getElem?_eq_getElem (by rw [bytesOf_len]; omega), Option.getD_some] at e2
    rw [e1, e2]
  · rw [List.getElem?_eq_none (by rw [bytesOf_len]; omega), List.getElem?_eq_none (by rw [List.length_take]; omega)]
theorem gramPrefix_law (t0 t1 : List UInt8) (N : Nat) (raw : Bool) (B : Ix → Int) (c : Int) (hB : ∀ i, i < N → 0 ≤ B [i] ∧ B [i] < 256) : RunsTo Tryd.prog 5 [.code (bodyOf Tryd.f5)] (envOf [vL 100 1 N, vB raw, vN c] Tryd.f5.ntmps) (Sx.look (sentEnts 19 144 [(4, t0), (0, t1)] ++ rB 100 N B ++ ([]))) 110 (YES) (Sx.look []) 12000 := by
  by_cases hN : 600 < N
  · exact gpLong t0 t1 N raw B c hN
  have hN : N ≤ 600 := by omega
  have hB := bndB_of hB
  have hlen := bytesOf_len B [] 0 N
  cases hz : ptM raw N B with
  | none => exact gpForm t0 t1 N raw B c hN hB (by rw [hz]; rfl)
  | some m =>
    obtain ⟨n, hn, hnN⟩ : ∃ n : Nat, IntKind.i64.wrap ((IntKind.u64.wrap c).tmod ((N + 1 : Nat) : Int)) = (n : Int) ∧ n ≤ N := by
      have h0 : 0 ≤ IntKind.u64.wrap c := by simp only [IntKind.wrap, IntKind.bits, IntKind.signed]; simp; omega
      generalize IntKind.u64.wrap c = u at h0
      have h1 : u.tmod ((N + 1 : Nat) : Int) = u % ((N + 1 : Nat) : Int) := Int.tmod_eq_emod_of_nonneg h0
      have h2 := Int.emod_nonneg u (show ((N + 1 : Nat) : Int) ≠ 0 by omega)
      have h3 := Int.emod_lt_of_pos u (show (0 : Int) < ((N + 1 : Nat) : Int) by omega)
      refine ⟨(u % ((N + 1 : Nat) : Int)).toNat, ?_, by omega⟩
      rw [h1, wr64 (by omega)]; omega
    have hp := parse_of hz
    have hb2 : bndB B n = true := bndB_of fun i hi => bndB_ok hB (by omega)
    obtain ⟨q, m', hq, hm', hql⟩ := read_pre raw _ 0 _ _ _ (Nat.lt_succ_self _) hp n (n + 1) (by rw [hlen]; exact hnN) (by omega)
    have hq2 : parseI raw (bytesOf B [] 0 n) = some ((ptT raw N B).take q, m') := by
      unfold parseI
      rw [bytesOf_len, bytes_take B N n hnN]; exact hq
    obtain ⟨hK, hM2⟩ := pt_of hq2
    have hl := pt_len raw N B
    have hrest : restN raw n B = m' := by unfold restN; rw [hM2]; rfl
    have hbr : m' = 0 → brV raw N B (n : Int) = true := by
      intro h0
      unfold brV
      rw [hz]
      rw [decide_eq_true (show (0 : Int) ≤ (n : Int) ∧ (n : Int) ≤ (N : Int) by omega)]
      by_cases hn0 : n = 0
      · rw [hn0]; simp
      · obtain ⟨e1, e2, e3, e4⟩ := read_ok raw _ 0 _ _ _ (Nat.lt_succ_self _) hq2
        rw [bytesOf_len, endI_last, h0] at e1
        have hne : (ptT raw N B).take q ≠ [] := fun e => by rw [if_pos e] at e1; omega
        rw [if_neg hne] at e1
        have hpos : 0 < ((ptT raw N B).take q).length := List.length_pos_iff.2 hne
        have hlt : ((ptT raw N B).take q).length ≤ (ptT raw N B).length := by rw [List.length_take]; omega
        have hlq : ((ptT raw N B).take q).length ≤ q := by rw [List.length_take]; omega
        generalize hj : ((ptT raw N B).take q).length = j at *
        have hi : idxF (iT (ptT raw N B)) (n : Int) (ptT raw N B).length 0 ≥ 0 := by
          refine (idx_ge _ _ _ _).2 ⟨j - 1, by omega, by omega, ?_⟩
          simp only [iT, List.headD_cons]
          have : ((ptT raw N B).take q).getD (j - 1) zIt = (ptT raw N B).getD (j - 1) zIt := by
            simp only [List.getD_eq_getElem?_getD]
            rw [List.getElem?_take_of_lt (by omega)]
          rw [← this]; omega
        rw [decide_eq_true hi]; simp
    have hr2 : (ptM raw n B).isSome = true := by rw [hM2]; rfl
    have hKT : ∀ i, i < ((ptT raw N B).take q).length → ((ptT raw N B).take q).getD i zIt = (ptT raw N B).getD i zIt := fun i hi => by
      rw [List.length_take] at hi
      simp only [List.getD_eq_getElem?_getD]
      rw [List.getElem?_take_of_lt (by omega)]
    have hKl : ((ptT raw N B).take q).length ≤ (ptT raw N B).length := by rw [List.length_take]; omega
    generalize hKK : (ptT raw N B).take q = K at *
    generalize hT : ptT raw N B = T at *
    refine gpStart t0 t1 N raw B c T K n hN hB hnN hn (by rw [hz]; rfl) hr2 hT hK hl hKl (by omega) hb2 ?_
    suffices g : ∀ (k i : Nat), i + k = K.length → RunsTo Tryd.prog 5 (headOf Tryd.f5 0) (envAt Tryd.f5.ntmps ([(0, vL 100 1 N), (1, vB raw), (7, vL 121 6 T.length), (9, vN (n : Nat)), (60, vL 123 6 K.length), (61, vN K.length), (62, vN (i : Nat))])) (Sx.look (sentEnts 19 144 [(4, t0), (0, t1)] ++ rB 100 N B ++ (itE 121 122 T ++ itE 123 124 K))) 110 (YES) (Sx.look []) 12000 from g K.length 0 (by omega)
    intro k
    induction k with
    | zero =>
      intro i hi
      by_cases h0 : restN raw n B = 0
      · exact gpE2 t0 t1 N raw B c T K n i hN hB (by omega) hnN hb2 h0 (hbr (by omega))
      · exact gpE1 t0 t1 N raw B c T K n i hN hB (by omega) hnN hb2 (by omega)
    | succ k ih =>
      intro i hi
      have e := hKT i (by omega)
      exact gpR t0 t1 N raw B c T K n i hN (by omega) hl hKl (by simp only [iF, List.headD_cons, e]) (by simp only [iT, List.headD_cons, e]) (by simp only [iK, List.headD_cons, e]) (ih (i + 1) (by omega))
end Go.Proofs.YtcphocfnhekdaaaDoor

set_option maxRecDepth 100000
set_option linter.unusedSimpArgs false
set_option linter.unusedVariables false
namespace Go.Proofs.YtcphocfnhekdaaaDoor
open Go.ChangeShapes Go.WideShapes Go.ChangeAt Go.RowKit
open Go.Sx

theorem gramPrefix_sh : shsOf Tryd.prog Tryd.f5.params.toList = some [.sl (.ki .u8), .kb, .ki .i64] := by kernel_rfl

theorem gramPrefix_star : "*" ++ "errors.errorString" = "*errors.errorString" := by decide
theorem gramPrefix_row (u : TypeId) (h : Tryd.prog.typeName? 3 u = some "*errors.errorString") : u = 144 :=
  typeName_ptr_named (nm := "errors.errorString") (by rw [gramPrefix_star]; kernel_rfl) (by kernel_rfl) (by decide) u (by rw [gramPrefix_star]; exact h)

theorem gramPrefix_errTy : ErrTy Tryd.prog "*errors.errorString" 26 144 169 9 := errTy_of (by kernel_rfl) gramPrefix_row (by kernel_rfl) (by kernel_rfl) (by kernel_rfl) (by kernel_rfl) (by kernel_rfl)

theorem gramPrefix_own : ownKnob Tryd.prog.godebug = none := by kernel_rfl
theorem gramPrefix_met (os : Os) (args : Array Value) : laidMetH Tryd.prog Rows.gramPrefixRow.laid ((World.laidAll Tryd.prog os Rows.gramPrefixRow.laid).forCall (fun _ _ => 0) ⟨#[], args, []⟩).memory := by
  rw [MakeChecks.laidMetH_plain _ _ _ (by kernel_rfl)]; exact laidMet_laidAll _ (by kernel_rfl) (by kernel_rfl)
theorem gramPrefix_plain (w : World) : laidMetH Tryd.prog Rows.gramPrefixRow.laid w = laidMet Tryd.prog Rows.gramPrefixRow.laid w := MakeChecks.laidMetH_plain _ _ _ (by kernel_rfl)

def gramPrefix_texts : List (Nat × List UInt8) := [(4, [115, 111, 109, 101, 116, 104, 105, 110, 103, 32, 105, 115, 32, 109, 105, 115, 115, 105, 110, 103, 32, 97, 116, 32, 116, 104, 101, 32, 101, 110, 100]), (0, [105, 116, 32, 105, 115, 32, 110, 111, 116, 32, 111, 102, 32, 105, 116, 115, 32, 102, 111, 114, 109])]
theorem gramPrefix_sent : sentOf Tryd.prog "*errors.errorString" Rows.gramPrefixRow.laid = some gramPrefix_texts := by kernel_rfl

theorem gramPrefix_readable : ∀ t ∈ Tryd.f5.params.toList, Tryd.prog.readableRec t = true ∧ t < Tryd.prog.types.size := by
  have h : (Tryd.f5.params.toList.all fun t => Tryd.prog.readableRec t && decide (t < Tryd.prog.types.size)) = true := by kernel_rfl
  intro t ht
  have := List.all_eq_true.1 h t ht
  simpa using this

theorem gramPrefix_wants : ∀ t ∈ Tryd.f5.params.toList, Tryd.prog.wantsStandIn t = false := by
  have h : (Tryd.f5.params.toList.all fun t => !Tryd.prog.wantsStandIn t) = true := by kernel_rfl
  intro t ht
  have := List.all_eq_true.1 h t ht
  simpa using this

theorem gramPrefix_lifted (os : Os) (started : os.Started) (H : Type) (enc : TypeId × Value → H) :
    ReturnsInHanded {} Tryd.checked os 5 .any (fun w args => (Rows.gramPrefixSpec.pre enc Tryd.prog Tryd.f5 [] false w args ∧ laidMetH Tryd.prog Rows.gramPrefixRow.laid w) ∧ sizedMet enc Tryd.prog Tryd.f5 (OpenSpec.ofChange Rows.gramPrefixSpec) false w args)
      (Rows.gramPrefixSpec.post enc Tryd.prog Tryd.f5 false true false false) := by
  refine returnsInHanded_of_change_and (C := Tryd.checked) (X := fun w _ => laidMetH Tryd.prog Rows.gramPrefixRow.laid w) (fun _ _ _ hh h => h.of_heap hh) gramPrefix_own started (by kernel_rfl) Tryd.func5
    (ChangeSpec.witness_shaped (enc := enc) (C := Tryd.checked) (os := os) (X := fun w _ => laidMetH Tryd.prog Rows.gramPrefixRow.laid w) false (World.laidAll Tryd.prog os Rows.gramPrefixRow.laid) #[.slice none 0 0, .bool false, .int .i64 0] 8 (World.laidAll_os _ _ _) (World.shaped_of_ZipB (by kernel_rfl) (by kernel_rfl)) (by kernel_rfl) (by kernel_rfl) (by kernel_rfl) (gramPrefix_met os _)) ?_
  intro W base args ds gs before hval hW _ _ hL _
  have hW' := hW
  obtain ⟨p, q, hA, hV, rfl, hfz, hnd⟩ := hW
  obtain ⟨rfl, rfl⟩ := trodVars_none hV
  rw [gramPrefix_plain] at hL
  obtain ⟨s1, s2, s3⟩ := sents_open gramPrefix_errTy hL gramPrefix_sent (by kernel_rfl)
  have hG : Tryd.prog.globals.size = 19 := by kernel_rfl
  rw [hG] at s2 s3
  have g3 : ds.length = 3 := (args_open gramPrefix_sh hA (fun j t v h1 h2 => hval j t v (by rw [← Array.getElem?_toList]; exact h1) (by rw [← Array.getElem?_toList]; exact h2))).2.2.1
  match ds, g3 with
  | [d1, d2, d3], _ =>
    refine (law_calls Tryd.func5 (body := bodyOf Tryd.f5) (by kernel_rfl) gramPrefix_sh hA hval (lab := 100) (n := 110) (n' := 12000) (L' := Sx.look []) gtopP s1 s2 (fun e he => ?_) (fun cs hcs hIs => ?_)).mono fun e W' ⟨he, hB⟩ => ⟨_, he, law_post (bt := 4) (by kernel_rfl) gramPrefix_readable rfl (by kernel_rfl) (by kernel_rfl) hW' rfl hB⟩
    · obtain ⟨a1, a2, a3⟩ := s3 e he
      exact ⟨a1, Nat.lt_of_lt_of_le a2 gtopP, fun l hl => Nat.lt_of_lt_of_le (a3 l hl) gtopP⟩
    · clear hcs
      have hX : ∀ i, i < lenOf (Go.Sx.rd0 cs [] 0) → 0 ≤ Sx.intOf (rdOf W 1 (Go.Sx.rd0 cs) 0 [i] 0) ∧ Sx.intOf (rdOf W 1 (Go.Sx.rd0 cs) 0 [i] 0) < 256 := by
        obtain ⟨a1, r1, e1, l1, he, hrest⟩ := hIs
        have he2 := he
        obtain ⟨v, e4, _⟩ := he2
        rw [e4] at he
        have e5 : Go.Sx.rd0 cs [] 0 = v := by
          show cs.getD 0 undef = v
          rw [e1, e4]
          rfl
        intro i hi
        rw [e5] at hi
        exact sl_u8 he e5 i hi
      refine RunsTo.start (cargs := [.v (.vl 100 (fun _ => 0) 1 [] (fun _ => lenOf (Go.Sx.rd0 cs [] 0))), .v (.vb fun _ => (Sx.boolOf (Go.Sx.rd0 cs [] 1))), .v (.vi .i64 fun _ => (Sx.intOf (Go.Sx.rd0 cs [] 2)))]) ?_ ⟨⟨rfl, rfl⟩, rfl, rfl, trivial⟩
      exact gramPrefix_law _ _ (lenOf (Go.Sx.rd0 cs [] 0)) (Sx.boolOf (Go.Sx.rd0 cs [] 1)) (fun is => Sx.intOf (rdOf W 1 (Go.Sx.rd0 cs) 0 is 0)) (Sx.intOf (Go.Sx.rd0 cs [] 2)) hX

theorem gramPrefix_holds : Rows.GramPrefixSaid :=
  OpenClaim.holds_of_wide 5 Tryd.f5 rfl rfl rfl rfl rfl rfl rfl ⟨rfl, rfl, rfl, rfl, rfl⟩ rfl rfl rfl rfl rfl (by kernel_rfl) Tryd.func5 (by kernel_rfl)
    (of_decide_eq_true (by kernel_rfl)) (by unfold Func.isWrapper; first | (rw [if_pos (by decide +kernel)]; kernel_rfl) | (rw [if_neg (by decide +kernel)]; exact ⟨rfl, rfl⟩))
    (fun os started H enc _ => gramPrefix_lifted os started H enc)

theorem gramPrefix_card_holds : Rows.GramPrefixCardSaid :=
  Claim7.holds_tied_plain_at .later [] [.sentinel, .sentinel] true (true, "f530cd95f545498e1079217162ceacc12c579589fcdd7c478fda70c03005852d") true
    gramPrefix_holds (fun _ h => by cases h) (by kernel_rfl) (fun _ h => by cases h) gramPrefix_row_tie rfl ⟨rfl, rfl⟩ (by kernel_rfl) rfl
    (fun f fn hf hfn => by
      obtain rfl : f = 5 := Option.some.inj ((show Tryd.prog.funcNamed "truchman/truchmanlaw07.GramPrefix" = some 5 by kernel_rfl).symm.trans hf) |>.symm
      obtain rfl : fn = Tryd.f5 := (Option.some.inj (Tryd.func5.symm.trans hfn)).symm
      exact ⟨by kernel_rfl, fun j t ht => gramPrefix_wants t (List.mem_of_getElem? (by rw [Array.getElem?_toList]; exact ht))⟩)
    (by kernel_rfl)
end Go.Proofs.YtcphocfnhekdaaaDoor

