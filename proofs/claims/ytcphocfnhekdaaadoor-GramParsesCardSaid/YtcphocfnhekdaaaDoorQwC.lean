/- Grammar: the law GramParses, joined. -/
import Derived.Test.YtcphocfnhekdaaaDoorQvC
import Derived.Test.YtcphocfnhekdaaaDoorSyY
import Derived.Test.YtcphocfnhekdaaaDoorSyPl
import Derived.Lay
import Derived.Test.YtcphocfnhekdaaaDoorTie
import Derived.Test.YtcphocfnhekdaaaDoorCards
set_option linter.unusedSimpArgs false
set_option linter.unusedVariables false
set_option maxRecDepth 100000
namespace Go.Proofs.YtcphocfnhekdaaaDoor
open Go.Sx CleanR GramR

theorem pt_of {raw : Bool} {n : Nat} {B : Ix → Int} {l : List Itm} {m : Nat} (h : parseI raw (bytesOf B [] 0 n) = some (l, m)) : ptT raw n B = l ∧ ptM raw n B = some m := by
  rw [allI_parse] at h
  unfold ptT ptM
  cases hz : (allI raw (bytesOf B [] 0 n)).2 with
  | none => rw [hz] at h; cases h
  | some k =>
    rw [hz] at h
    simp only [Option.some.injEq, Prod.mk.injEq] at h
    exact ⟨h.1, by rw [h.2]⟩
theorem parse_of {raw : Bool} {n : Nat} {B : Ix → Int} {m : Nat} (h : ptM raw n B = some m) : parseI raw (bytesOf B [] 0 n) = some (ptT raw n B, m) := by
  rw [allI_parse]
  unfold ptM at h
  rw [h]; rfl
theorem endI_last : ∀ (l : List Itm) (a : Nat), endI a l = if l = [] then a else (l.getD (l.length - 1) zIt).2.2
  | [], a => rfl
  | [(x, f, e)], a => rfl
  | (x, f, e) :: y :: r, a => by
    have := endI_last (y :: r) e
    rw [if_neg (by simp)] at this
    simp only [endI] at this ⊢
    rw [if_neg (by simp), this]
    simp
theorem bytes_in (B : Ix → Int) (N : Nat) : bytesOf (inG B N 5) [] 0 N = bytesOf B [] 0 N := by
  apply List.ext_getElem?
  intro i
  by_cases h : i < N
  · have e1 := bytesOf_get (B := inG B N 5) (is := []) (st := 0) (n := N) h
    have e2 := bytesOf_get (B := B) (is := []) (st := 0) (n := N) h
    rw [List.getElem?_eq_getElem (by rw [bytesOf_len]; exact h), List.getElem?_eq_getElem (by rw [bytesOf_len]; exact h)]
    rw [List.getD_eq_getElem?_getD, List.getElem?_eq_getElem (by rw [bytesOf_len]; exact h)] at e1 e2
    simp only [Option.getD_some] at e1 e2
    rw [e1, e2]
    simp only [List.nil_append, Nat.zero_add]
    rw [inG_at, if_pos h]
  · rw [List.getElem?_eq_none (by rw [bytesOf_len]; omega), List.getElem?_eq_none (by rw [bytesOf_len]; omega)]
theorem any_iff (F T : Ix → Int) (c : Int) : ∀ k i, anyV F T c k i = true ↔ ∃ j, i ≤ j ∧ j < i + k ∧ (F [j] = c ∨ T [j] = c)
  | 0, i => by simp [anyV]; omega
  | k + 1, i => by
    simp only [anyV]
    by_cases h : F [i] = c ∨ T [i] = c
    · rw [if_pos h]; exact ⟨fun _ => ⟨i, by omega, by omega, h⟩, fun _ => rfl⟩
    · rw [if_neg h, any_iff F T c k (i + 1)]
      constructor
      · rintro ⟨j, h1, h2, h3⟩; exact ⟨j, by omega, by omega, h3⟩
      · rintro ⟨j, h1, h2, h3⟩
        refine ⟨j, ?_, by omega, h3⟩
        rcases Nat.eq_or_lt_of_le h1 with e | e
        · subst e; exact absurd h3 h
        · omega
theorem bord_same (T : List Itm) (N : Nat) (c : Int) (h : ∀ (i : Nat) (x : It) (f e : Nat), T[i]? = some (x, f, e) → f = (if i = 0 then 0 else (T.getD (i - 1) (x, 0, 0)).2.2)) :
    (decide (c = 0) || (decide (c = (N : Int)) || decide (idxF (iT T) c T.length 0 ≥ 0))) = brW (iF T) (iT T) T.length (N : Int) c := by
  unfold brW
  by_cases h0 : c = 0
  · simp [h0]
  congr 2
  rw [Bool.eq_iff_iff, decide_eq_true_eq, any_iff, ge_iff_le, idx_ge]
  constructor
  · rintro ⟨j, h1, h2, h3⟩; exact ⟨j, h1, h2, .inr h3⟩
  · rintro ⟨j, h1, h2, h3 | h3⟩
    · have hj : j < T.length := by omega
      obtain ⟨y, hy⟩ : ∃ y, T[j]? = some y := ⟨T[j], List.getElem?_eq_getElem hj⟩
      obtain ⟨x, f, e⟩ := y
      have hf := h j x f e hy
      have g : T.getD j zIt = (x, f, e) := by rw [List.getD_eq_getElem?_getD, hy]; rfl
      have e1 : iF T [j] = (f : Int) := by simp only [iF, List.headD_cons, g]
      by_cases hz : j = 0
      · rw [if_pos hz] at hf; omega
      · rw [if_neg hz] at hf
        refine ⟨j - 1, by omega, by omega, ?_⟩
        have : T.getD (j - 1) zIt = T.getD (j - 1) (x, 0, 0) := by
          simp only [List.getD_eq_getElem?_getD, List.getElem?_eq_getElem (show j - 1 < T.length by omega), Option.getD_some]
        simp only [iT, List.headD_cons, this, ← hf]
        omega
    · exact ⟨j, h1, h2, h3⟩
theorem gramParses_law (t0 t1 t2 t3 t4 t5 t6 t7 t8 t9 t10 t11 t12 t13 t14 t15 : List UInt8) (N : Nat) (raw : Bool) (B : Ix → Int) (c : Int) (hB : ∀ i, i < N → 0 ≤ B [i] ∧ B [i] < 256) : RunsTo Tryd.prog 4 [.code (bodyOf Tryd.f4)] (envOf [vL 100 1 N, vB raw, vN c] Tryd.f4.ntmps) (Sx.look (allS t0 t1 t2 t3 t4 t5 t6 t7 t8 t9 t10 t11 t12 t13 t14 t15 ++ rB 100 N B ++ ([]))) 110 (YES) (Sx.look []) 20000 := by
  by_cases hN : 900 < N
  · exact qLong t0 t1 t2 t3 t4 t5 t6 t7 t8 t9 t10 t11 t12 t13 t14 t15 N raw B c hN
  have hN : N ≤ 900 := by omega
  have hB := bndB_of hB
  have hT : ptT raw N (inG B N 5) = alT raw (bytesOf B [] 0 N) := by unfold ptT alT; rw [bytes_in]
  have hM : ptM raw N (inG B N 5) = (allI raw (bytesOf B [] 0 N)).2 := by unfold ptM; rw [bytes_in]
  cases hz : (allI raw (bytesOf B [] 0 N)).2 with
  | none =>
    rw [hz] at hM
    exact qForm t0 t1 t2 t3 t4 t5 t6 t7 t8 t9 t10 t11 t12 t13 t14 t15 N raw B c hN hB (by rw [hM]; rfl) (by unfold restN; rw [hM]; rfl) (by unfold brV; rw [hM]; rfl) (by unfold alS; rw [hz]; rfl)
  | some m =>
    rw [hz] at hM
    have hp : parseI raw (bytesOf B [] 0 N) = some (alT raw (bytesOf B [] 0 N), m) := by rw [allI_parse, hz]; rfl
    obtain ⟨_, _, _, e4⟩ := read_ok raw _ 0 _ _ _ (Nat.lt_succ_self _) hp
    have hc : ∀ i, ((alT raw (bytesOf B [] 0 N)).getD i zIt).1.code < 256 := by rw [← hT]; exact pt_code raw N _
    have hl := pt_len raw N (inG B N 5)
    have hx : txL raw N (inG B N 5) = txF (alT raw (bytesOf B [] 0 N)) (alT raw (bytesOf B [] 0 N)).length := by unfold txL; rw [hT]
    have hbv : brV raw N (inG B N 5) c = (decide (0 ≤ c ∧ c ≤ (N : Int)) && (decide (c = 0) || (decide (c = (N : Int)) || decide (idxF (iT (alT raw (bytesOf B [] 0 N))) c (alT raw (bytesOf B [] 0 N)).length 0 ≥ 0)))) := by unfold brV; rw [hM, hT]; rfl
    have hA : alS raw (bytesOf B [] 0 N) = true := by unfold alS; rw [hz]; rfl
    have hA2 : alN raw (bytesOf B [] 0 N) = m := by unfold alN; rw [hz]; rfl
    have hm : restN raw N (inG B N 5) = m := by unfold restN; rw [hM]; rfl
    have hr : (ptM raw N (inG B N 5)).isSome = true := by rw [hM]; rfl
    rw [hT] at hl
    generalize hA1 : alT raw (bytesOf B [] 0 N) = T at *
    have hsame := bord_same T N c (fun i x f e h => (e4 i x f e h).2.2.2.2)
    have hcd : cdB (iK T) (iC T) T.length = true := List.all_eq_true.2 fun i _ => decide_eq_true (.inr (by
      have e2 : iC T [i] = ((T.getD i zIt).1.code : Int) := rfl
      have := hc i
      rw [e2]; omega))
    rw [← txG_F] at hx
    have tail : RunsTo Tryd.prog 4 (headOf Tryd.f4 0) (envAt Tryd.f4.ntmps ([(12, vL 123 6 T.length), (123, vL 121 6 T.length), (124, vN T.length), (125, vN (0 : Nat))])) (Sx.look (allS t0 t1 t2 t3 t4 t5 t6 t7 t8 t9 t10 t11 t12 t13 t14 t15 ++ rB 100 N B ++ (itE 121 122 T ++ jE 123 T))) 110 (YES) (Sx.look []) 20000 := by
      suffices g : ∀ (k i : Nat), i + k = T.length → RunsTo Tryd.prog 4 (headOf Tryd.f4 0) (envAt Tryd.f4.ntmps ([(12, vL 123 6 T.length), (123, vL 121 6 T.length), (124, vN T.length), (125, vN (i : Nat))])) (Sx.look (allS t0 t1 t2 t3 t4 t5 t6 t7 t8 t9 t10 t11 t12 t13 t14 t15 ++ rB 100 N B ++ (itE 121 122 T ++ jE 123 T))) 110 (YES) (Sx.look []) 20000 from g T.length 0 (by omega)
      intro k
      induction k with
      | zero => intro i hi; exact qEnd t0 t1 t2 t3 t4 t5 t6 t7 t8 t9 t10 t11 t12 t13 t14 t15 N raw B c T i (by omega)
      | succ k ih => intro i hi; exact qR t0 t1 t2 t3 t4 t5 t6 t7 t8 t9 t10 t11 t12 t13 t14 t15 N raw B c T i hN (by omega) hl (ih (i + 1) (by omega))
    by_cases h1 : c < 0
    · exact qA t0 t1 t2 t3 t4 t5 t6 t7 t8 t9 t10 t11 t12 t13 t14 t15 N raw B c T m hN hB hr hT hA hA1 hA2 hm hx hcd hl h1 (by rw [hbv, decide_eq_false (by omega)]; rfl) tail
    by_cases h2 : (N : Int) < c
    · exact qB t0 t1 t2 t3 t4 t5 t6 t7 t8 t9 t10 t11 t12 t13 t14 t15 N raw B c T m hN hB hr hT hA hA1 hA2 hm hx hcd hl h2 (by rw [hbv, decide_eq_false (by omega)]; rfl) tail
    exact qC t0 t1 t2 t3 t4 t5 t6 t7 t8 t9 t10 t11 t12 t13 t14 t15 N raw B c T m hN hB hr hT hA hA1 hA2 hm hx hcd hl (by omega) (by omega) (by rw [hbv, hsame, decide_eq_true (show 0 ≤ c ∧ c ≤ (N : Int) by omega)]; rfl) tail
end Go.Proofs.YtcphocfnhekdaaaDoor

set_option maxRecDepth 100000
set_option linter.unusedSimpArgs false
set_option linter.unusedVariables false
namespace Go.Proofs.YtcphocfnhekdaaaDoor
open Go.ChangeShapes Go.WideShapes Go.ChangeAt Go.RowKit
open Go.Sx

theorem gramParses_sh : shsOf Tryd.prog Tryd.f4.params.toList = some [.sl (.ki .u8), .kb, .ki .i64] := by kernel_rfl

theorem gramParses_star : "*" ++ "errors.errorString" = "*errors.errorString" := by decide
theorem gramParses_row (u : TypeId) (h : Tryd.prog.typeName? 3 u = some "*errors.errorString") : u = 144 :=
  typeName_ptr_named (nm := "errors.errorString") (by rw [gramParses_star]; kernel_rfl) (by kernel_rfl) (by decide) u (by rw [gramParses_star]; exact h)

theorem gramParses_errTy : ErrTy Tryd.prog "*errors.errorString" 26 144 169 9 := errTy_of (by kernel_rfl) gramParses_row (by kernel_rfl) (by kernel_rfl) (by kernel_rfl) (by kernel_rfl) (by kernel_rfl)

theorem gramParses_own : ownKnob Tryd.prog.godebug = none := by kernel_rfl
theorem gramParses_met (os : Os) (args : Array Value) : laidMetH Tryd.prog Rows.gramParsesRow.laid ((World.laidAll Tryd.prog os Rows.gramParsesRow.laid).forCall (fun _ _ => 0) ⟨#[], args, []⟩).memory := by
  rw [MakeChecks.laidMetH_plain _ _ _ (by kernel_rfl)]; exact laidMet_laidAll _ (by kernel_rfl) (by kernel_rfl)
theorem gramParses_plain (w : World) : laidMetH Tryd.prog Rows.gramParsesRow.laid w = laidMet Tryd.prog Rows.gramParsesRow.laid w := MakeChecks.laidMetH_plain _ _ _ (by kernel_rfl)

def gramParses_texts : List (Nat × List UInt8) := [(2, [97, 32, 110, 117, 109, 98, 101, 114, 32, 105, 115, 32, 111, 117, 116, 32, 111, 102, 32, 105, 116, 115, 32, 114, 97, 110, 103, 101]), (5, [116, 104, 101, 114, 101, 32, 105, 115, 32, 110, 111, 32, 109, 111, 114, 101, 32, 114, 111, 111, 109]), (4, [115, 111, 109, 101, 116, 104, 105, 110, 103, 32, 105, 115, 32, 109, 105, 115, 115, 105, 110, 103, 32, 97, 116, 32, 116, 104, 101, 32, 101, 110, 100]), (3, [116, 104, 101, 114, 101, 32, 105, 115, 32, 109, 111, 114, 101, 32, 116, 104, 97, 110, 32, 109, 97, 121, 32, 98, 101]), (0, [105, 116, 32, 105, 115, 32, 110, 111, 116, 32, 111, 102, 32, 105, 116, 115, 32, 102, 111, 114, 109]), (6, [116, 104, 101, 114, 101, 32, 105, 115, 32, 110, 111, 32, 115, 117, 99, 104, 32, 110, 97, 109, 101]), (7, [116, 104, 101, 114, 101, 32, 105, 115, 32, 110, 111, 110, 101]), (8, [105, 116, 32, 105, 115, 32, 116, 104, 101, 114, 101, 32, 97, 108, 114, 101, 97, 100, 121]), (1, [105, 116, 32, 105, 115, 32, 111, 102, 32, 97, 110, 111, 116, 104, 101, 114, 32, 107, 105, 110, 100]), (9, [105, 116, 32, 99, 97, 110, 32, 110, 111, 116, 32, 98, 101, 32, 100, 111, 110, 101, 32, 105, 110, 32, 116, 104, 105, 115, 32, 115, 116, 97, 116, 101]), (10, [105, 116, 32, 103, 111, 101, 115, 32, 116, 111, 111, 32, 100, 101, 101, 112]), (11, [116, 104, 101, 32, 102, 117, 101, 108, 32, 105, 115, 32, 115, 112, 101, 110, 116]), (12, [116, 104, 101, 114, 101, 32, 97, 114, 101, 32, 116, 111, 111, 32, 109, 97, 110, 121, 32, 99, 97, 108, 108, 115, 32, 119, 105, 116, 104, 105, 110, 32, 111, 110, 101, 32, 97, 110, 111, 116, 104, 101, 114]), (13, [105, 116, 32, 105, 115, 32, 99, 108, 111, 115, 101, 100]), (14, [105, 116, 32, 119, 111, 117, 108, 100, 32, 109, 97, 116, 99, 104, 32, 110, 111, 116, 104, 105, 110, 103, 32, 97, 116, 32, 97, 108, 108]), (15, [116, 104, 101, 32, 116, 101, 120, 116, 32, 105, 115, 32, 110, 111, 32, 110, 117, 109, 98, 101, 114])]
theorem gramParses_sent : sentOf Tryd.prog "*errors.errorString" Rows.gramParsesRow.laid = some gramParses_texts := by kernel_rfl

theorem gramParses_readable : ∀ t ∈ Tryd.f4.params.toList, Tryd.prog.readableRec t = true ∧ t < Tryd.prog.types.size := by
  have h : (Tryd.f4.params.toList.all fun t => Tryd.prog.readableRec t && decide (t < Tryd.prog.types.size)) = true := by kernel_rfl
  intro t ht
  have := List.all_eq_true.1 h t ht
  simpa using this

theorem gramParses_wants : ∀ t ∈ Tryd.f4.params.toList, Tryd.prog.wantsStandIn t = false := by
  have h : (Tryd.f4.params.toList.all fun t => !Tryd.prog.wantsStandIn t) = true := by kernel_rfl
  intro t ht
  have := List.all_eq_true.1 h t ht
  simpa using this

theorem gramParses_lifted (os : Os) (started : os.Started) (H : Type) (enc : TypeId × Value → H) :
    ReturnsInHanded {} Tryd.checked os 4 .any (fun w args => (Rows.gramParsesSpec.pre enc Tryd.prog Tryd.f4 [] false w args ∧ laidMetH Tryd.prog Rows.gramParsesRow.laid w) ∧ sizedMet enc Tryd.prog Tryd.f4 (OpenSpec.ofChange Rows.gramParsesSpec) false w args)
      (Rows.gramParsesSpec.post enc Tryd.prog Tryd.f4 false true false false) := by
  refine returnsInHanded_of_change_and (C := Tryd.checked) (X := fun w _ => laidMetH Tryd.prog Rows.gramParsesRow.laid w) (fun _ _ _ hh h => h.of_heap hh) gramParses_own started (by kernel_rfl) Tryd.func4
    (ChangeSpec.witness_shaped (enc := enc) (C := Tryd.checked) (os := os) (X := fun w _ => laidMetH Tryd.prog Rows.gramParsesRow.laid w) false (World.laidAll Tryd.prog os Rows.gramParsesRow.laid) #[.slice none 0 0, .bool false, .int .i64 0] 8 (World.laidAll_os _ _ _) (World.shaped_of_ZipB (by kernel_rfl) (by kernel_rfl)) (by kernel_rfl) (by kernel_rfl) (by kernel_rfl) (gramParses_met os _)) ?_
  intro W base args ds gs before hval hW _ _ hL _
  have hW' := hW
  obtain ⟨p, q, hA, hV, rfl, hfz, hnd⟩ := hW
  obtain ⟨rfl, rfl⟩ := trodVars_none hV
  rw [gramParses_plain] at hL
  obtain ⟨s1, s2, s3⟩ := sents_open gramParses_errTy hL gramParses_sent (by kernel_rfl)
  have hG : Tryd.prog.globals.size = 19 := by kernel_rfl
  rw [hG] at s2 s3
  have g3 : ds.length = 3 := (args_open gramParses_sh hA (fun j t v h1 h2 => hval j t v (by rw [← Array.getElem?_toList]; exact h1) (by rw [← Array.getElem?_toList]; exact h2))).2.2.1
  match ds, g3 with
  | [d1, d2, d3], _ =>
    refine (law_calls Tryd.func4 (body := bodyOf Tryd.f4) (by kernel_rfl) gramParses_sh hA hval (lab := 100) (n := 110) (n' := 20000) (L' := Sx.look []) gtopP s1 s2 (fun e he => ?_) (fun cs hcs hIs => ?_)).mono fun e W' ⟨he, hB⟩ => ⟨_, he, law_post (bt := 4) (by kernel_rfl) gramParses_readable rfl (by kernel_rfl) (by kernel_rfl) hW' rfl hB⟩
    · obtain ⟨a1, a2, a3⟩ := s3 e he
      exact ⟨a1, Nat.lt_of_lt_of_le a2 gtopP, fun l hl => Nat.lt_of_lt_of_le (a3 l hl) gtopP⟩
    · clear hcs
      have hX : ∀ i, i < lenOf (Go.Sx.rd0 cs [] 0) → 0 ≤ Sx.intOf (rdOf W 1 (Go.Sx.rd0 cs) 0 [i] 0) ∧ Sx.intOf (rdOf W 1 (Go.Sx.rd0 cs) 0 [i] 0) < 256 := by
        obtain ⟨a1, r1, e1, l1, he, hrest⟩ := hIs
        have he2 := he
        obtain ⟨v, e4, _⟩ := he2
        rw [e4] at he
        have e5 : Go.Sx.rd0 cs [] 0 = v := by
          show cs.getD 0 undef = v
          rw [e1, e4]
          rfl
        intro i hi
        rw [e5] at hi
        exact sl_u8 he e5 i hi
      refine RunsTo.start (cargs := [.v (.vl 100 (fun _ => 0) 1 [] (fun _ => lenOf (Go.Sx.rd0 cs [] 0))), .v (.vb fun _ => (Sx.boolOf (Go.Sx.rd0 cs [] 1))), .v (.vi .i64 fun _ => (Sx.intOf (Go.Sx.rd0 cs [] 2)))]) ?_ ⟨⟨rfl, rfl⟩, rfl, rfl, trivial⟩
      exact gramParses_law _ _ _ _ _ _ _ _ _ _ _ _ _ _ _ _ (lenOf (Go.Sx.rd0 cs [] 0)) (Sx.boolOf (Go.Sx.rd0 cs [] 1)) (fun is => Sx.intOf (rdOf W 1 (Go.Sx.rd0 cs) 0 is 0)) (Sx.intOf (Go.Sx.rd0 cs [] 2)) hX

theorem gramParses_holds : Rows.GramParsesSaid :=
  OpenClaim.holds_of_wide 4 Tryd.f4 rfl rfl rfl rfl rfl rfl rfl ⟨rfl, rfl, rfl, rfl, rfl⟩ rfl rfl rfl rfl rfl (by kernel_rfl) Tryd.func4 (by kernel_rfl)
    (of_decide_eq_true (by kernel_rfl)) (by unfold Func.isWrapper; first | (rw [if_pos (by decide +kernel)]; kernel_rfl) | (rw [if_neg (by decide +kernel)]; exact ⟨rfl, rfl⟩))
    (fun os started H enc _ => gramParses_lifted os started H enc)

theorem gramParses_card_holds : Rows.GramParsesCardSaid :=
  Claim7.holds_tied_plain_at .later [] [.sentinel, .sentinel, .sentinel, .sentinel, .sentinel, .sentinel, .sentinel, .sentinel, .sentinel, .sentinel, .sentinel, .sentinel, .sentinel, .sentinel, .sentinel, .sentinel] true (true, "f530cd95f545498e1079217162ceacc12c579589fcdd7c478fda70c03005852d") true
    gramParses_holds (fun _ h => by cases h) (by kernel_rfl) (fun _ h => by cases h) gramParses_row_tie rfl ⟨rfl, rfl⟩ (by kernel_rfl) rfl
    (fun f fn hf hfn => by
      obtain rfl : f = 4 := Option.some.inj ((show Tryd.prog.funcNamed "truchman/truchmanlaw07.GramParses" = some 4 by kernel_rfl).symm.trans hf) |>.symm
      obtain rfl : fn = Tryd.f4 := (Option.some.inj (Tryd.func4.symm.trans hfn)).symm
      exact ⟨by kernel_rfl, fun j t ht => gramParses_wants t (List.mem_of_getElem? (by rw [Array.getElem?_toList]; exact ht))⟩)
    (by kernel_rfl)
end Go.Proofs.YtcphocfnhekdaaaDoor

