/- Cleaning what is sent: the plain law of CleanPlain (with cut bodies). -/
import Derived.Test.YtcphocfnhekdaaaDoorUiC
set_option linter.unusedSimpArgs false
set_option linter.unusedVariables false
namespace Go.Proofs.YtcphocfnhekdaaaDoor
open Go.Sx GramR

/-- The tokens that stay, without marks. -/
def cleanK (raw : Bool) : Mc → Bool → List UInt8 → List Tk
  | _, _, [] => []
  | m, bh, c :: r => match feedC m c with
    | (m', none) => cleanK raw m' bh r
    | (m', some t) => if t.kind = 1 then (if (raw || (t.code != 0 || !bh)) = true then t :: cleanK raw m' (!raw && t.code == 13) r else cleanK raw m' false r) else t :: cleanK raw m' bh r
section
variable {raw bh : Bool} {m m' : Mc} {c : UInt8} {t : Tk}
theorem cK_n (h : feedC m c = (m', none)) (r : List UInt8) : cleanK raw m bh (c :: r) = cleanK raw m' bh r := by
  rw [cleanK, h]
theorem cK_o (h : feedC m c = (m', some t)) (k : t.kind ≠ 1) (r : List UInt8) : cleanK raw m bh (c :: r) = t :: cleanK raw m' bh r := by
  rw [cleanK, h]; simp only; rw [if_neg k]
theorem cK_d (h : feedC m c = (m', some t)) (k : t.kind = 1) (s : (raw || (t.code != 0 || !bh)) = true) (r : List UInt8) : cleanK raw m bh (c :: r) = t :: cleanK raw m' (!raw && t.code == 13) r := by
  rw [cleanK, h]; simp only; rw [if_pos k, if_pos s]
theorem cK_g (h : feedC m c = (m', some t)) (k : t.kind = 1) (s : (raw || (t.code != 0 || !bh)) = false) (r : List UInt8) : cleanK raw m bh (c :: r) = cleanK raw m' false r := by
  rw [cleanK, h]; simp only; rw [if_pos k, if_neg (by rw [s]; decide)]
end
/-- Raw, all tokens stay. -/
theorem clean_raw : ∀ (bs : List UInt8) (m : Mc) (bh : Bool), cleanK true m bh bs = (runC m bs).1
  | [], m, bh => rfl
  | c :: r, m, bh => by
    cases hz : feedC m c with
    | mk m' x =>
      cases x with
      | none => rw [cK_n hz, runC_n hz, clean_raw r]
      | some t =>
        rw [runC_s hz]
        by_cases k : t.kind = 1
        · rw [cK_d hz k rfl, clean_raw r]
        · rw [cK_o hz k, clean_raw r]
/-- The data of tokens. -/
def dataK : List Tk → List UInt8
  | [] => []
  | t :: r => if t.kind = 1 then UInt8.ofNat t.code :: dataK r else dataK r
/-- What goes out of a terminal (layer 8). -/
def encL (raw : Bool) : List UInt8 → List UInt8
  | [] => []
  | c :: r => if raw = false ∧ c = 13 ∧ r.headD 0 ≠ 10 then 13 :: 0 :: encL raw r else c :: encL raw r
theorem clean_byte (raw bh : Bool) (c : UInt8) (rest : List UInt8) : cleanK raw Mc0 bh (dbl [c] ++ rest) = if (raw || (c.toNat != 0 || !bh)) = true then ⟨1, c.toNat, 0, [], false⟩ :: cleanK raw Mc0 (!raw && c.toNat == 13) rest else cleanK raw Mc0 false rest := by
  by_cases h : c = 255
  · subst h
    simp only [dbl, if_pos, List.cons_append, List.nil_append]
    have e1 : feedC Mc0 255 = (⟨1, 0, 0, [], false⟩, none) := by simp [feedC, Mc0]
    have e2 : feedC ⟨1, 0, 0, [], false⟩ 255 = (Mc0, some ⟨1, 255, 0, [], false⟩) := by simp [feedC, Mc0]
    rw [cK_n e1, cK_d e2 rfl (by simp), if_pos (by simp)]
    rfl
  · simp only [dbl, if_neg h, List.cons_append, List.nil_append]
    have e1 : feedC Mc0 c = (Mc0, some ⟨1, c.toNat, 0, [], false⟩) := by simp [feedC, Mc0, h]
    cases hs : (raw || (c.toNat != 0 || !bh)) with
    | true => rw [cK_d e1 rfl hs, if_pos rfl]
    | false => rw [cK_g e1 rfl hs, if_neg (by decide)]
theorem u8back (c : UInt8) : UInt8.ofNat c.toNat = c := by simp
theorem dbl_cons (c : UInt8) (r rest : List UInt8) : dbl (c :: r) ++ rest = dbl [c] ++ (dbl r ++ rest) := by
  by_cases h : c = 255
  · subst h; simp [dbl]
  · simp [dbl, h]
theorem clean_part (raw : Bool) (rest : List UInt8) : ∀ (p : List UInt8) (bh : Bool), (bh = true → p.headD 0 = 10) → dataK (cleanK raw Mc0 bh (dbl (encL raw p) ++ rest)) = p ++ dataK (cleanK raw Mc0 false rest)
  | [], bh, h => by
    cases bh with
    | true => have := h rfl; simp at this
    | false => rfl
  | c :: r, bh, h => by
    have keep : ∀ (q : List UInt8) (b2 : Bool), (raw || (c.toNat != 0 || !bh)) = true → (!raw && c.toNat == 13) = b2 → (b2 = true → r.headD 0 = 10) → q = dbl (encL raw r) ++ rest → dataK (cleanK raw Mc0 bh (dbl [c] ++ q)) = c :: r ++ dataK (cleanK raw Mc0 false rest) := by
      intro q b2 hs hb hr hq
      rw [clean_byte, if_pos hs, hb, hq]
      show (if (1 : Nat) = 1 then UInt8.ofNat c.toNat :: dataK (cleanK raw Mc0 b2 (dbl (encL raw r) ++ rest)) else _) = _
      rw [if_pos rfl, u8back, clean_part raw rest r b2 hr]
      rfl
    have hc0 : bh = true → c ≠ 0 := fun e q => by have := h e; rw [List.headD_cons] at this; rw [this] at q; exact absurd q (by decide)
    have hn0 : c ≠ 0 → c.toNat ≠ 0 := fun e q => e (UInt8.toNat_inj.1 q)
    have hs : (raw || (c.toNat != 0 || !bh)) = true := by
      cases bh with
      | false => simp
      | true => have := hn0 (hc0 rfl); simp [this]
    by_cases hq : raw = false ∧ c = 13 ∧ r.headD 0 ≠ 10
    · obtain ⟨h1, h2, h3⟩ := hq
      subst h1 h2
      have e : encL false (13 :: r) = 13 :: 0 :: encL false r := by rw [encL, if_pos ⟨rfl, rfl, h3⟩]
      rw [e, dbl_cons, dbl_cons, clean_byte, if_pos (by simp)]
      show (if (1 : Nat) = 1 then UInt8.ofNat (13 : UInt8).toNat :: dataK (cleanK false Mc0 true (dbl [0] ++ (dbl (encL false r) ++ rest))) else _) = _
      rw [if_pos rfl, clean_byte, if_neg (by simp), clean_part false rest r false (by intro h; cases h)]
      rfl
    · have e : encL raw (c :: r) = c :: encL raw r := by rw [encL, if_neg hq]
      rw [e, dbl_cons]
      refine keep _ (!raw && c.toNat == 13) hs rfl ?_ rfl
      intro hb
      simp only [Bool.and_eq_true, Bool.not_eq_true', beq_iff_eq] at hb
      refine Classical.byContradiction fun hne => hq ⟨hb.1, UInt8.toNat_inj.1 hb.2, hne⟩
theorem clean_verb (raw bh : Bool) (v o : UInt8) (hv : 251 ≤ v.toNat ∧ v.toNat ≤ 254) (rest : List UInt8) : dataK (cleanK raw Mc0 bh (255 :: v :: o :: rest)) = dataK (cleanK raw Mc0 bh rest) := by
  have d1 : v ≠ 255 := fun e => by rw [e] at hv; have : (255 : UInt8).toNat = 255 := rfl; omega
  have d2 : v ≠ 250 := fun e => by rw [e] at hv; have : (250 : UInt8).toNat = 250 := rfl; omega
  have e1 : feedC Mc0 255 = (⟨1, 0, 0, [], false⟩, none) := by simp [feedC, Mc0]
  have e2 : feedC ⟨1, 0, 0, [], false⟩ v = (⟨2, v.toNat, 0, [], false⟩, none) := by simp only [feedC, if_pos, if_neg d1, if_neg d2, if_pos hv]
  have e3 : feedC ⟨2, v.toNat, 0, [], false⟩ o = (Mc0, some ⟨3, v.toNat, o.toNat, [], false⟩) := by simp [feedC]
  rw [cK_n e1, cK_n e2, cK_o e3 (by simp)]
  rfl
/-- All that is sent of the first parts, and their data. -/
def sentP (raw : Bool) (P : Nat → List UInt8) : Nat → List UInt8
  | 0 => []
  | k + 1 => sentP raw P k ++ dbl (encL raw (P k)) ++ [255, UInt8.ofNat (251 + k % 4), UInt8.ofNat k]
def allP (P : Nat → List UInt8) : Nat → List UInt8
  | 0 => []
  | k + 1 => allP P k ++ P k
theorem clean_sent (raw : Bool) (P : Nat → List UInt8) : ∀ (k : Nat) (rest : List UInt8), dataK (cleanK raw Mc0 false (sentP raw P k ++ rest)) = allP P k ++ dataK (cleanK raw Mc0 false rest)
  | 0, rest => rfl
  | k + 1, rest => by
    have hv : (UInt8.ofNat (251 + k % 4)).toNat = 251 + k % 4 := by
      have : k % 4 < 4 := Nat.mod_lt _ (by decide)
      simp; omega
    rw [sentP, List.append_assoc, List.append_assoc, clean_sent raw P k, clean_part raw _ (P k) false (by intro h; cases h)]
    simp only [List.cons_append, List.nil_append]
    rw [clean_verb raw false _ _ (by rw [hv]; have : k % 4 < 4 := Nat.mod_lt _ (by decide); omega), allP, List.append_assoc]
theorem clean_plain (raw : Bool) (P : Nat → List UInt8) (k : Nat) : dataK (cleanK raw Mc0 false (sentP raw P k)) = allP P k := by
  have := clean_sent raw P k []
  rw [List.append_nil] at this
  rw [this]; simp [cleanK, dataK]
end Go.Proofs.YtcphocfnhekdaaaDoor

set_option linter.unusedSimpArgs false
set_option linter.unusedVariables false
set_option maxRecDepth 100000
namespace Go.Proofs.YtcphocfnhekdaaaDoor
open Go.Sx

open GramR
def clK (p l st cd op : Nat) (b : List UInt8) (u bh : Bool) : List Ent := ⟨p, true, none, 8, .tc (.tc (.vi .i64 fun _ => st) (.tc (.tc (.vi .i64 fun _ => 0) (.tc (.vi .i64 fun _ => cd) (.tc (.vi .i64 fun _ => op) (.tc (.vl l (fun _ => 0) 1 [] (fun _ => b.length)) (.tc (.vb fun _ => u) .t0))))) .t0)) (.tc (.tc (.vb fun _ => bh) .t0) (.tc (.vb fun _ => false) .t0))⟩ :: bW l b
theorem eq13 (n : Nat) : ((n : Int) == 13) = (n == 13) := by rw [Bool.eq_iff_iff]; simp; omega
theorem u8eqK {c k : UInt8} (h : c.toNat = k.toNat) : c = k := UInt8.toNat_inj.1 h
theorem u8neK {c k : UInt8} (h : c.toNat ≠ k.toNat) : c ≠ k := fun e => h (by rw [e])
theorem kaStart_p0 (N M : Nat) (B : Ix → Int) (raw : Bool) :
    isMore (evTill Tryd.prog [] 700 (behind Tryd.f34 0) 900 34 [.code (bodyOf Tryd.f34)] (envOf [vL 60 1 N, .v .vl0, vB raw] Tryd.f34.ntmps) (rB 60 M B ++ ([])) ⟨[], 80⟩) (moreP (headOf Tryd.f34 0) ([((101 : Nat), Rn.to (80 : Nat)), ((102 : Nat), Rn.nil (5 : Nat)), ((104 : Nat), Rn.nil (1 : Nat)), ((103 : Nat), Rn.nil (1 : Nat))]) Tryd.f34.ntmps ([(1, .v .vl0), (2, vB raw), (7, vP 101), (8, vL 102 5 (([] : List Tk)).length), (15, vL 60 1 N), (16, vN N), (17, vN (0 : Nat))]) (clK 101 104 0 0 0 ([] : List UInt8) false false ++ toK 102 103 ([] : List Tk)) 420) =
    (OkL [] ∧ headOf Tryd.f34 (0 : Nat) = headOf Tryd.f34 (0 : Nat) ∧ (True ∧ raw = raw ∧ (0 : Nat) = (0 : Nat) ∧ (0 : Nat) = (0 : Nat) ∧ ((0 : Nat) = (0 : Nat) ∧ N = N) ∧ (↑N : Int) = (↑N : Int) ∧ (↑(0 : Nat) : Int) = (0 : Int)) ∧ (((↑(0 : Nat) : Int) = (0 : Int) ∧ (0 : Int) = (0 : Int) ∧ (↑(0 : Nat) : Int) = (0 : Int) ∧ (↑(0 : Nat) : Int) = (0 : Int) ∧ (0 : Nat) = (0 : Nat) ∧ false = false) ∧ false = false ∧ false = false) ∧ (0 : Nat) = (0 : Nat) ∧ (0 : Nat) = (0 : Nat) ∧ (0 : Nat) = (0 : Nat)) := by kernel_rfl

set_option maxHeartbeats 4000000 in
theorem kaStart (N M : Nat) (B : Ix → Int) (raw : Bool)  (v : SV) (L' : HF) (next : RunsTo Tryd.prog 34 (headOf Tryd.f34 0) (envAt Tryd.f34.ntmps ([(1, .v .vl0), (2, vB raw), (7, vP 101), (8, vL 102 5 (([] : List Tk)).length), (15, vL 60 1 N), (16, vN N), (17, vN (0 : Nat))])) (Sx.look (rB 60 M B ++ (clK 101 104 0 0 0 ([] : List UInt8) false false ++ toK 102 103 ([] : List Tk)))) 80 (v) (L') 420) :
    RunsTo Tryd.prog 34 [.code (bodyOf Tryd.f34)] (envOf [vL 60 1 N, .v .vl0, vB raw] Tryd.f34.ntmps) (Sx.look (rB 60 M B ++ ([]))) 80 (v) (L') 420 := by
  refine runs_more baseO (More.of (kaStart_p0 N M B raw) ⟨?oo, rfl, ?rr⟩) (by kernel_rfl) (by kernel_rfl) rfl (gtL (by decide)) (by decide) next
  case oo =>
    clear next
    refine okn
    all_goals ((try simp (disch := omega) only [SS]); first | done | omega | assumption | (simp (disch := omega) only [SS] at *; first | done | omega | assumption) | (simp_all; done))
  case rr =>
    clear next
    try simp (disch := omega) only [SS]
    repeat' apply And.intro
    all_goals first | exact True.intro | with_reducible rfl | omega | (intros; first | exact True.intro | with_reducible rfl | omega | (simp_all; done)) | (simp_all; done) | rfl

theorem k0_p0 (N M : Nat) (B : Ix → Int) (raw : Bool) (T : List Tk) (cd op : Nat) (body : List UInt8) (cu bh : Bool) (i : Nat) (c : UInt8) :
    isMore (evTill Tryd.prog [] 700 (behind Tryd.f34 0) 900 34 (headOf Tryd.f34 0) (envAt Tryd.f34.ntmps ([(1, .v .vl0), (2, vB raw), (7, vP 101), (8, vL 102 5 (T).length), (15, vL 60 1 N), (16, vN N), (17, vN (i : Nat))])) (rB 60 M B ++ (clK 101 104 0 cd op body cu bh ++ toK 102 103 T)) ⟨[.s true, .s true, .s true, .s true, .f, .f, .f, .f, .f, .f, .f, .s true, .t, .f], 130⟩) (moreP (headOf Tryd.f34 0) ([]) Tryd.f34.ntmps ([(1, .v .vl0), (2, vB raw), (7, vP 101), (8, vL 102 5 (T).length), (15, vL 60 1 N), (16, vN N), (17, vN (i + 1 : Nat))]) (clK 101 104 1 cd op body cu bh ++ toK 102 103 T) 420) =
    (OkL [(decide ((↑i : Int) < (↑N : Int)), true), (decide ((0 : Int) ≤ (↑i : Int) ∧ (↑i : Int) < (↑N : Int)), true), (((0 : Nat) + (↑i : Int).toNat).blt M, true), (((0 : Nat) + (↑i : Int).toNat).blt M, true), (B [(0 : Nat) + (↑i : Int).toNat] == (255 : Int), true)] ∧ headOf Tryd.f34 (0 : Nat) = headOf Tryd.f34 (0 : Nat) ∧ (True ∧ raw = raw ∧ (0 : Nat) = (0 : Nat) ∧ ((0 : Nat) = (0 : Nat) ∧ T.length = T.length) ∧ ((0 : Nat) = (0 : Nat) ∧ N = N) ∧ (↑N : Int) = (↑N : Int) ∧ (↑(i + (1 : Nat)) : Int) = IntKind.i64.wrap ((↑i : Int) + (1 : Int))) ∧ (((↑(1 : Nat) : Int) = (1 : Int) ∧ (0 : Int) = (0 : Int) ∧ (↑cd : Int) = (↑cd : Int) ∧ (↑op : Int) = (↑op : Int) ∧ ((0 : Nat) = (0 : Nat) ∧ body.length = body.length) ∧ cu = cu) ∧ bh = bh ∧ false = false) ∧ (body.length = body.length ∧ ∀ (i : Nat), i < body.length → (↑(body.getD i (0 : UInt8)).toNat : Int) = (↑(body.getD i (0 : UInt8)).toNat : Int)) ∧ (T.length = T.length ∧ (∀ (i : Nat), i < T.length → kK T [i] = kK T [i]) ∧ (∀ (i : Nat), i < T.length → kC T [i] = kC T [i]) ∧ (∀ (i : Nat), i < T.length → kO T [i] = kO T [i]) ∧ ((∀ (i : Nat), i < T.length → kM T [i] = kM T [i]) ∧ ∀ (i : Nat), i < T.length → kL T [i] = kL T [i]) ∧ ∀ (i : Nat), i < T.length → kU T [i] = kU T [i]) ∧ T.length = T.length ∧ ∀ (m : Nat), m < T.length → gL T m = gL T m ∧ ∀ (i : Nat), i < gL T m → gB T [m, i] = gB T [m, i]) := by kernel_rfl

set_option maxHeartbeats 4000000 in
theorem k0 (N M : Nat) (B : Ix → Int) (raw : Bool) (T : List Tk) (cd op : Nat) (body : List UInt8) (cu bh : Bool) (i : Nat) (c : UInt8) (hi : i < N) (hN : N ≤ 400000) (hT : T.length ≤ 400000) (hl : body.length ≤ 256) (hb : B [i] = (c.toNat : Int)) (hc : c.toNat < 256) (hcd : cd < 256) (hop : op < 256) (hM : N ≤ M) (h : c.toNat = 255)  (v : SV) (L' : HF) (next : RunsTo Tryd.prog 34 (headOf Tryd.f34 0) (envAt Tryd.f34.ntmps ([(1, .v .vl0), (2, vB raw), (7, vP 101), (8, vL 102 5 (T).length), (15, vL 60 1 N), (16, vN N), (17, vN (i + 1 : Nat))])) (Sx.look (rB 60 M B ++ (clK 101 104 1 cd op body cu bh ++ toK 102 103 T))) 80 (v) (L') 420) :
    RunsTo Tryd.prog 34 (headOf Tryd.f34 0) (envAt Tryd.f34.ntmps ([(1, .v .vl0), (2, vB raw), (7, vP 101), (8, vL 102 5 (T).length), (15, vL 60 1 N), (16, vN N), (17, vN (i : Nat))])) (Sx.look (rB 60 M B ++ (clK 101 104 0 cd op body cu bh ++ toK 102 103 T))) 80 (v) (L') 420 := by
  have hw : IntKind.i64.wrap ((i : Int) + 1) = ((i + 1 : Nat) : Int) := by rw [wr64 (by omega)]; rfl
  have hb8 : IntKind.i64.wrap (c.toNat : Int) = (c.toNat : Int) := wr64 (by omega)
  have hu8 : IntKind.u8.wrap (c.toNat : Int) = (c.toNat : Int) := u8id (by omega)
  refine runs_more baseO (More.of (k0_p0 N M B raw T cd op body cu bh i c) ⟨?oo, rfl, ?rr⟩) (by kernel_rfl) (by kernel_rfl) rfl (gtL (by decide)) (by decide) next
  case oo =>
    clear next
    refine (okc ?_ (okc ?_ (okc ?_ (okc ?_ (okc ?_ okn)))))
    all_goals ((try simp (disch := omega) only [SS, hw, hb, hb8, hu8]); first | done | omega | assumption | (simp (disch := omega) only [SS, hw, hb, hb8, hu8] at *; first | done | omega | assumption) | (simp_all; done))
  case rr =>
    clear next
    simp (disch := omega) only [SS, hw, hb, hb8, hu8, Go.Sx.sum, List.length_append, List.length_cons, List.length_nil, Nat.zero_add]
    repeat' apply And.intro
    all_goals first | exact True.intro | with_reducible rfl | omega | exact kK_app T _ _ rfl | exact kC_app T _ _ rfl | exact kO_app T _ _ rfl | exact kL_app T _ _ rfl | exact kU_app T _ _ rfl | exact kM_app T _ _ _ (fun k hk => rfl) rfl | exact gL_cons T _ _ rfl | (intro m hm; exact ⟨gL_cons T _ _ rfl m hm, fun j hj => gB_cons T _ _ m hm j (fun j hj => by first | exact absurd hj (Nat.not_lt_zero _) | rfl | (simp [mk5]; done) | (simp [mk5, appF, subIx]; done)) hj⟩) | (intro k hk; exact app_byte1 body _ _ (by first | exact hb | (simpa [subIx] using hb) | (simp only [subIx, List.tail]; simp_all)) k hk) | (intro k hk; exact kC_app T _ _ (by first | rfl | (simp [mk5]; done) | (simp [mk5]; omega)) k hk) | (simp [subIx, hb]; done) | (simp_all [subIx]; done) | (intros; simp_all; done) | exact eq13 _ | exact (eq13 _).symm | (rw [Bool.eq_iff_iff]; simp; done) | (rw [Bool.eq_iff_iff]; simp; omega) | (simp_all; exact (eq13 _).symm) | (simp_all; exact eq13 _) | (simp_all; done)

theorem k1s_p0 (N M : Nat) (B : Ix → Int) (raw : Bool) (T : List Tk) (cd op : Nat) (body : List UInt8) (cu bh : Bool) (i : Nat) (c : UInt8) :
    isMore (evTill Tryd.prog [] 700 (behind Tryd.f34 0) 900 34 (headOf Tryd.f34 0) (envAt Tryd.f34.ntmps ([(1, .v .vl0), (2, vB raw), (7, vP 101), (8, vL 102 5 (T).length), (15, vL 60 1 N), (16, vN N), (17, vN (i : Nat))])) (rB 60 M B ++ (clK 101 104 1 cd op body cu bh ++ toK 102 103 T)) ⟨[.s true, .s true, .s true, .s true, .f, .f, .t, .s false, .s true, .t, .f], 130⟩) (moreP (headOf Tryd.f34 0) ([]) Tryd.f34.ntmps ([(1, .v .vl0), (2, vB raw), (7, vP 101), (8, vL 102 5 (T).length), (15, vL 60 1 N), (16, vN N), (17, vN (i + 1 : Nat))]) (clK 101 104 3 cd op body cu bh ++ toK 102 103 T) 420) =
    (OkL [(decide ((↑i : Int) < (↑N : Int)), true), (decide ((0 : Int) ≤ (↑i : Int) ∧ (↑i : Int) < (↑N : Int)), true), (((0 : Nat) + (↑i : Int).toNat).blt M, true), (((0 : Nat) + (↑i : Int).toNat).blt M, true), (B [(0 : Nat) + (↑i : Int).toNat] == (255 : Int), false), (B [(0 : Nat) + (↑i : Int).toNat] == (250 : Int), true)] ∧ headOf Tryd.f34 (0 : Nat) = headOf Tryd.f34 (0 : Nat) ∧ (True ∧ raw = raw ∧ (0 : Nat) = (0 : Nat) ∧ ((0 : Nat) = (0 : Nat) ∧ T.length = T.length) ∧ ((0 : Nat) = (0 : Nat) ∧ N = N) ∧ (↑N : Int) = (↑N : Int) ∧ (↑(i + (1 : Nat)) : Int) = IntKind.i64.wrap ((↑i : Int) + (1 : Int))) ∧ (((↑(3 : Nat) : Int) = (3 : Int) ∧ (0 : Int) = (0 : Int) ∧ (↑cd : Int) = (↑cd : Int) ∧ (↑op : Int) = (↑op : Int) ∧ ((0 : Nat) = (0 : Nat) ∧ body.length = body.length) ∧ cu = cu) ∧ bh = bh ∧ false = false) ∧ (body.length = body.length ∧ ∀ (i : Nat), i < body.length → (↑(body.getD i (0 : UInt8)).toNat : Int) = (↑(body.getD i (0 : UInt8)).toNat : Int)) ∧ (T.length = T.length ∧ (∀ (i : Nat), i < T.length → kK T [i] = kK T [i]) ∧ (∀ (i : Nat), i < T.length → kC T [i] = kC T [i]) ∧ (∀ (i : Nat), i < T.length → kO T [i] = kO T [i]) ∧ ((∀ (i : Nat), i < T.length → kM T [i] = kM T [i]) ∧ ∀ (i : Nat), i < T.length → kL T [i] = kL T [i]) ∧ ∀ (i : Nat), i < T.length → kU T [i] = kU T [i]) ∧ T.length = T.length ∧ ∀ (m : Nat), m < T.length → gL T m = gL T m ∧ ∀ (i : Nat), i < gL T m → gB T [m, i] = gB T [m, i]) := by kernel_rfl

set_option maxHeartbeats 4000000 in
theorem k1s (N M : Nat) (B : Ix → Int) (raw : Bool) (T : List Tk) (cd op : Nat) (body : List UInt8) (cu bh : Bool) (i : Nat) (c : UInt8) (hi : i < N) (hN : N ≤ 400000) (hT : T.length ≤ 400000) (hl : body.length ≤ 256) (hb : B [i] = (c.toNat : Int)) (hc : c.toNat < 256) (hcd : cd < 256) (hop : op < 256) (hM : N ≤ M) (h : c.toNat = 250)  (v : SV) (L' : HF) (next : RunsTo Tryd.prog 34 (headOf Tryd.f34 0) (envAt Tryd.f34.ntmps ([(1, .v .vl0), (2, vB raw), (7, vP 101), (8, vL 102 5 (T).length), (15, vL 60 1 N), (16, vN N), (17, vN (i + 1 : Nat))])) (Sx.look (rB 60 M B ++ (clK 101 104 3 cd op body cu bh ++ toK 102 103 T))) 80 (v) (L') 420) :
    RunsTo Tryd.prog 34 (headOf Tryd.f34 0) (envAt Tryd.f34.ntmps ([(1, .v .vl0), (2, vB raw), (7, vP 101), (8, vL 102 5 (T).length), (15, vL 60 1 N), (16, vN N), (17, vN (i : Nat))])) (Sx.look (rB 60 M B ++ (clK 101 104 1 cd op body cu bh ++ toK 102 103 T))) 80 (v) (L') 420 := by
  have hw : IntKind.i64.wrap ((i : Int) + 1) = ((i + 1 : Nat) : Int) := by rw [wr64 (by omega)]; rfl
  have hb8 : IntKind.i64.wrap (c.toNat : Int) = (c.toNat : Int) := wr64 (by omega)
  have hu8 : IntKind.u8.wrap (c.toNat : Int) = (c.toNat : Int) := u8id (by omega)
  refine runs_more baseO (More.of (k1s_p0 N M B raw T cd op body cu bh i c) ⟨?oo, rfl, ?rr⟩) (by kernel_rfl) (by kernel_rfl) rfl (gtL (by decide)) (by decide) next
  case oo =>
    clear next
    refine (okc ?_ (okc ?_ (okc ?_ (okc ?_ (okc ?_ (okc ?_ okn))))))
    all_goals ((try simp (disch := omega) only [SS, hw, hb, hb8, hu8]); first | done | omega | assumption | (simp (disch := omega) only [SS, hw, hb, hb8, hu8] at *; first | done | omega | assumption) | (simp_all; done))
  case rr =>
    clear next
    simp (disch := omega) only [SS, hw, hb, hb8, hu8, Go.Sx.sum, List.length_append, List.length_cons, List.length_nil, Nat.zero_add]
    repeat' apply And.intro
    all_goals first | exact True.intro | with_reducible rfl | omega | exact kK_app T _ _ rfl | exact kC_app T _ _ rfl | exact kO_app T _ _ rfl | exact kL_app T _ _ rfl | exact kU_app T _ _ rfl | exact kM_app T _ _ _ (fun k hk => rfl) rfl | exact gL_cons T _ _ rfl | (intro m hm; exact ⟨gL_cons T _ _ rfl m hm, fun j hj => gB_cons T _ _ m hm j (fun j hj => by first | exact absurd hj (Nat.not_lt_zero _) | rfl | (simp [mk5]; done) | (simp [mk5, appF, subIx]; done)) hj⟩) | (intro k hk; exact app_byte1 body _ _ (by first | exact hb | (simpa [subIx] using hb) | (simp only [subIx, List.tail]; simp_all)) k hk) | (intro k hk; exact kC_app T _ _ (by first | rfl | (simp [mk5]; done) | (simp [mk5]; omega)) k hk) | (simp [subIx, hb]; done) | (simp_all [subIx]; done) | (intros; simp_all; done) | exact eq13 _ | exact (eq13 _).symm | (rw [Bool.eq_iff_iff]; simp; done) | (rw [Bool.eq_iff_iff]; simp; omega) | (simp_all; exact (eq13 _).symm) | (simp_all; exact eq13 _) | (simp_all; done)

theorem k1v_p0 (N M : Nat) (B : Ix → Int) (raw : Bool) (T : List Tk) (cd op : Nat) (body : List UInt8) (cu bh : Bool) (i : Nat) (c : UInt8) :
    isMore (evTill Tryd.prog [] 700 (behind Tryd.f34 0) 900 34 (headOf Tryd.f34 0) (envAt Tryd.f34.ntmps ([(1, .v .vl0), (2, vB raw), (7, vP 101), (8, vL 102 5 (T).length), (15, vL 60 1 N), (16, vN N), (17, vN (i : Nat))])) (rB 60 M B ++ (clK 101 104 1 cd op body cu bh ++ toK 102 103 T)) ⟨[.s true, .s true, .s true, .s true, .f, .f, .t, .s false, .s false, .s true, .s true, .t, .f], 130⟩) (moreP (headOf Tryd.f34 0) ([((104 : Nat), Rn.nil (1 : Nat))]) Tryd.f34.ntmps ([(1, .v .vl0), (2, vB raw), (7, vP 101), (8, vL 102 5 (T).length), (15, vL 60 1 N), (16, vN N), (17, vN (i + 1 : Nat))]) (clK 101 104 2 c.toNat 0 ([] : List UInt8) false bh ++ toK 102 103 T) 420) =
    (OkL [(decide ((↑i : Int) < (↑N : Int)), true), (decide ((0 : Int) ≤ (↑i : Int) ∧ (↑i : Int) < (↑N : Int)), true), (((0 : Nat) + (↑i : Int).toNat).blt M, true), (((0 : Nat) + (↑i : Int).toNat).blt M, true), (B [(0 : Nat) + (↑i : Int).toNat] == (255 : Int), false), (B [(0 : Nat) + (↑i : Int).toNat] == (250 : Int), false), (decide (IntKind.i64.wrap (B [(0 : Nat) + (↑i : Int).toNat]) ≥ (251 : Int)), true), (decide (IntKind.i64.wrap (B [(0 : Nat) + (↑i : Int).toNat]) ≤ (254 : Int)), true)] ∧ headOf Tryd.f34 (0 : Nat) = headOf Tryd.f34 (0 : Nat) ∧ (True ∧ raw = raw ∧ (0 : Nat) = (0 : Nat) ∧ ((0 : Nat) = (0 : Nat) ∧ T.length = T.length) ∧ ((0 : Nat) = (0 : Nat) ∧ N = N) ∧ (↑N : Int) = (↑N : Int) ∧ (↑(i + (1 : Nat)) : Int) = IntKind.i64.wrap ((↑i : Int) + (1 : Int))) ∧ (((↑(2 : Nat) : Int) = (2 : Int) ∧ (0 : Int) = (0 : Int) ∧ (↑c.toNat : Int) = IntKind.i64.wrap (B [(0 : Nat) + (↑i : Int).toNat]) ∧ (↑(0 : Nat) : Int) = (0 : Int) ∧ (0 : Nat) = (0 : Nat) ∧ false = false) ∧ bh = bh ∧ false = false) ∧ (0 : Nat) = (0 : Nat) ∧ (T.length = T.length ∧ (∀ (i : Nat), i < T.length → kK T [i] = kK T [i]) ∧ (∀ (i : Nat), i < T.length → kC T [i] = kC T [i]) ∧ (∀ (i : Nat), i < T.length → kO T [i] = kO T [i]) ∧ ((∀ (i : Nat), i < T.length → kM T [i] = kM T [i]) ∧ ∀ (i : Nat), i < T.length → kL T [i] = kL T [i]) ∧ ∀ (i : Nat), i < T.length → kU T [i] = kU T [i]) ∧ T.length = T.length ∧ ∀ (m : Nat), m < T.length → gL T m = gL T m ∧ ∀ (i : Nat), i < gL T m → gB T [m, i] = gB T [m, i]) := by kernel_rfl

set_option maxHeartbeats 4000000 in
theorem k1v (N M : Nat) (B : Ix → Int) (raw : Bool) (T : List Tk) (cd op : Nat) (body : List UInt8) (cu bh : Bool) (i : Nat) (c : UInt8) (hi : i < N) (hN : N ≤ 400000) (hT : T.length ≤ 400000) (hl : body.length ≤ 256) (hb : B [i] = (c.toNat : Int)) (hc : c.toNat < 256) (hcd : cd < 256) (hop : op < 256) (hM : N ≤ M) (h : 251 ≤ c.toNat ∧ c.toNat ≤ 254)  (v : SV) (L' : HF) (next : RunsTo Tryd.prog 34 (headOf Tryd.f34 0) (envAt Tryd.f34.ntmps ([(1, .v .vl0), (2, vB raw), (7, vP 101), (8, vL 102 5 (T).length), (15, vL 60 1 N), (16, vN N), (17, vN (i + 1 : Nat))])) (Sx.look (rB 60 M B ++ (clK 101 104 2 c.toNat 0 ([] : List UInt8) false bh ++ toK 102 103 T))) 80 (v) (L') 420) :
    RunsTo Tryd.prog 34 (headOf Tryd.f34 0) (envAt Tryd.f34.ntmps ([(1, .v .vl0), (2, vB raw), (7, vP 101), (8, vL 102 5 (T).length), (15, vL 60 1 N), (16, vN N), (17, vN (i : Nat))])) (Sx.look (rB 60 M B ++ (clK 101 104 1 cd op body cu bh ++ toK 102 103 T))) 80 (v) (L') 420 := by
  have hw : IntKind.i64.wrap ((i : Int) + 1) = ((i + 1 : Nat) : Int) := by rw [wr64 (by omega)]; rfl
  have hb8 : IntKind.i64.wrap (c.toNat : Int) = (c.toNat : Int) := wr64 (by omega)
  have hu8 : IntKind.u8.wrap (c.toNat : Int) = (c.toNat : Int) := u8id (by omega)
  refine runs_more baseO (More.of (k1v_p0 N M B raw T cd op body cu bh i c) ⟨?oo, rfl, ?rr⟩) (by kernel_rfl) (by kernel_rfl) rfl (gtL (by decide)) (by decide) next
  case oo =>
    clear next
    refine (okc ?_ (okc ?_ (okc ?_ (okc ?_ (okc ?_ (okc ?_ (okc ?_ (okc ?_ okn))))))))
    all_goals ((try simp (disch := omega) only [SS, hw, hb, hb8, hu8]); first | done | omega | assumption | (simp (disch := omega) only [SS, hw, hb, hb8, hu8] at *; first | done | omega | assumption) | (simp_all; done))
  case rr =>
    clear next
    simp (disch := omega) only [SS, hw, hb, hb8, hu8, Go.Sx.sum, List.length_append, List.length_cons, List.length_nil, Nat.zero_add]
    repeat' apply And.intro
    all_goals first | exact True.intro | with_reducible rfl | omega | exact kK_app T _ _ rfl | exact kC_app T _ _ rfl | exact kO_app T _ _ rfl | exact kL_app T _ _ rfl | exact kU_app T _ _ rfl | exact kM_app T _ _ _ (fun k hk => rfl) rfl | exact gL_cons T _ _ rfl | (intro m hm; exact ⟨gL_cons T _ _ rfl m hm, fun j hj => gB_cons T _ _ m hm j (fun j hj => by first | exact absurd hj (Nat.not_lt_zero _) | rfl | (simp [mk5]; done) | (simp [mk5, appF, subIx]; done)) hj⟩) | (intro k hk; exact app_byte1 body _ _ (by first | exact hb | (simpa [subIx] using hb) | (simp only [subIx, List.tail]; simp_all)) k hk) | (intro k hk; exact kC_app T _ _ (by first | rfl | (simp [mk5]; done) | (simp [mk5]; omega)) k hk) | (simp [subIx, hb]; done) | (simp_all [subIx]; done) | (intros; simp_all; done) | exact eq13 _ | exact (eq13 _).symm | (rw [Bool.eq_iff_iff]; simp; done) | (rw [Bool.eq_iff_iff]; simp; omega) | (simp_all; exact (eq13 _).symm) | (simp_all; exact eq13 _) | (simp_all; done)

theorem k3_p0 (N M : Nat) (B : Ix → Int) (raw : Bool) (T : List Tk) (cd op : Nat) (body : List UInt8) (cu bh : Bool) (i : Nat) (c : UInt8) :
    isMore (evTill Tryd.prog [] 700 (behind Tryd.f34 0) 900 34 (headOf Tryd.f34 0) (envAt Tryd.f34.ntmps ([(1, .v .vl0), (2, vB raw), (7, vP 101), (8, vL 102 5 (T).length), (15, vL 60 1 N), (16, vN N), (17, vN (i : Nat))])) (rB 60 M B ++ (clK 101 104 3 cd op body cu bh ++ toK 102 103 T)) ⟨[.s true, .s true, .s true, .s true, .f, .f, .f, .f, .t, .t, .f], 130⟩) (moreP (headOf Tryd.f34 0) ([((104 : Nat), Rn.nil (1 : Nat))]) Tryd.f34.ntmps ([(1, .v .vl0), (2, vB raw), (7, vP 101), (8, vL 102 5 (T).length), (15, vL 60 1 N), (16, vN N), (17, vN (i + 1 : Nat))]) (clK 101 104 4 0 c.toNat ([] : List UInt8) false bh ++ toK 102 103 T) 420) =
    (OkL [(decide ((↑i : Int) < (↑N : Int)), true), (decide ((0 : Int) ≤ (↑i : Int) ∧ (↑i : Int) < (↑N : Int)), true), (((0 : Nat) + (↑i : Int).toNat).blt M, true), (((0 : Nat) + (↑i : Int).toNat).blt M, true)] ∧ headOf Tryd.f34 (0 : Nat) = headOf Tryd.f34 (0 : Nat) ∧ (True ∧ raw = raw ∧ (0 : Nat) = (0 : Nat) ∧ ((0 : Nat) = (0 : Nat) ∧ T.length = T.length) ∧ ((0 : Nat) = (0 : Nat) ∧ N = N) ∧ (↑N : Int) = (↑N : Int) ∧ (↑(i + (1 : Nat)) : Int) = IntKind.i64.wrap ((↑i : Int) + (1 : Int))) ∧ (((↑(4 : Nat) : Int) = (4 : Int) ∧ (0 : Int) = (0 : Int) ∧ (↑(0 : Nat) : Int) = (0 : Int) ∧ (↑c.toNat : Int) = IntKind.i64.wrap (B [(0 : Nat) + (↑i : Int).toNat]) ∧ (0 : Nat) = (0 : Nat) ∧ false = false) ∧ bh = bh ∧ false = false) ∧ (0 : Nat) = (0 : Nat) ∧ (T.length = T.length ∧ (∀ (i : Nat), i < T.length → kK T [i] = kK T [i]) ∧ (∀ (i : Nat), i < T.length → kC T [i] = kC T [i]) ∧ (∀ (i : Nat), i < T.length → kO T [i] = kO T [i]) ∧ ((∀ (i : Nat), i < T.length → kM T [i] = kM T [i]) ∧ ∀ (i : Nat), i < T.length → kL T [i] = kL T [i]) ∧ ∀ (i : Nat), i < T.length → kU T [i] = kU T [i]) ∧ T.length = T.length ∧ ∀ (m : Nat), m < T.length → gL T m = gL T m ∧ ∀ (i : Nat), i < gL T m → gB T [m, i] = gB T [m, i]) := by kernel_rfl

set_option maxHeartbeats 4000000 in
theorem k3 (N M : Nat) (B : Ix → Int) (raw : Bool) (T : List Tk) (cd op : Nat) (body : List UInt8) (cu bh : Bool) (i : Nat) (c : UInt8) (hi : i < N) (hN : N ≤ 400000) (hT : T.length ≤ 400000) (hl : body.length ≤ 256) (hb : B [i] = (c.toNat : Int)) (hc : c.toNat < 256) (hcd : cd < 256) (hop : op < 256) (hM : N ≤ M)  (v : SV) (L' : HF) (next : RunsTo Tryd.prog 34 (headOf Tryd.f34 0) (envAt Tryd.f34.ntmps ([(1, .v .vl0), (2, vB raw), (7, vP 101), (8, vL 102 5 (T).length), (15, vL 60 1 N), (16, vN N), (17, vN (i + 1 : Nat))])) (Sx.look (rB 60 M B ++ (clK 101 104 4 0 c.toNat ([] : List UInt8) false bh ++ toK 102 103 T))) 80 (v) (L') 420) :
    RunsTo Tryd.prog 34 (headOf Tryd.f34 0) (envAt Tryd.f34.ntmps ([(1, .v .vl0), (2, vB raw), (7, vP 101), (8, vL 102 5 (T).length), (15, vL 60 1 N), (16, vN N), (17, vN (i : Nat))])) (Sx.look (rB 60 M B ++ (clK 101 104 3 cd op body cu bh ++ toK 102 103 T))) 80 (v) (L') 420 := by
  have hw : IntKind.i64.wrap ((i : Int) + 1) = ((i + 1 : Nat) : Int) := by rw [wr64 (by omega)]; rfl
  have hb8 : IntKind.i64.wrap (c.toNat : Int) = (c.toNat : Int) := wr64 (by omega)
  have hu8 : IntKind.u8.wrap (c.toNat : Int) = (c.toNat : Int) := u8id (by omega)
  refine runs_more baseO (More.of (k3_p0 N M B raw T cd op body cu bh i c) ⟨?oo, rfl, ?rr⟩) (by kernel_rfl) (by kernel_rfl) rfl (gtL (by decide)) (by decide) next
  case oo =>
    clear next
    refine (okc ?_ (okc ?_ (okc ?_ (okc ?_ okn))))
    all_goals ((try simp (disch := omega) only [SS, hw, hb, hb8, hu8]); first | done | omega | assumption | (simp (disch := omega) only [SS, hw, hb, hb8, hu8] at *; first | done | omega | assumption) | (simp_all; done))
  case rr =>
    clear next
    simp (disch := omega) only [SS, hw, hb, hb8, hu8, Go.Sx.sum, List.length_append, List.length_cons, List.length_nil, Nat.zero_add]
    repeat' apply And.intro
    all_goals first | exact True.intro | with_reducible rfl | omega | exact kK_app T _ _ rfl | exact kC_app T _ _ rfl | exact kO_app T _ _ rfl | exact kL_app T _ _ rfl | exact kU_app T _ _ rfl | exact kM_app T _ _ _ (fun k hk => rfl) rfl | exact gL_cons T _ _ rfl | (intro m hm; exact ⟨gL_cons T _ _ rfl m hm, fun j hj => gB_cons T _ _ m hm j (fun j hj => by first | exact absurd hj (Nat.not_lt_zero _) | rfl | (simp [mk5]; done) | (simp [mk5, appF, subIx]; done)) hj⟩) | (intro k hk; exact app_byte1 body _ _ (by first | exact hb | (simpa [subIx] using hb) | (simp only [subIx, List.tail]; simp_all)) k hk) | (intro k hk; exact kC_app T _ _ (by first | rfl | (simp [mk5]; done) | (simp [mk5]; omega)) k hk) | (simp [subIx, hb]; done) | (simp_all [subIx]; done) | (intros; simp_all; done) | exact eq13 _ | exact (eq13 _).symm | (rw [Bool.eq_iff_iff]; simp; done) | (rw [Bool.eq_iff_iff]; simp; omega) | (simp_all; exact (eq13 _).symm) | (simp_all; exact eq13 _) | (simp_all; done)

theorem k4e_p0 (N M : Nat) (B : Ix → Int) (raw : Bool) (T : List Tk) (cd op : Nat) (body : List UInt8) (cu bh : Bool) (i : Nat) (c : UInt8) :
    isMore (evTill Tryd.prog [] 700 (behind Tryd.f34 0) 900 34 (headOf Tryd.f34 0) (envAt Tryd.f34.ntmps ([(1, .v .vl0), (2, vB raw), (7, vP 101), (8, vL 102 5 (T).length), (15, vL 60 1 N), (16, vN N), (17, vN (i : Nat))])) (rB 60 M B ++ (clK 101 104 4 cd op body cu bh ++ toK 102 103 T)) ⟨[.s true, .s true, .s true, .s true, .f, .f, .f, .f, .f, .t, .s true, .t, .f], 130⟩) (moreP (headOf Tryd.f34 0) ([]) Tryd.f34.ntmps ([(1, .v .vl0), (2, vB raw), (7, vP 101), (8, vL 102 5 (T).length), (15, vL 60 1 N), (16, vN N), (17, vN (i + 1 : Nat))]) (clK 101 104 5 cd op body cu bh ++ toK 102 103 T) 420) =
    (OkL [(decide ((↑i : Int) < (↑N : Int)), true), (decide ((0 : Int) ≤ (↑i : Int) ∧ (↑i : Int) < (↑N : Int)), true), (((0 : Nat) + (↑i : Int).toNat).blt M, true), (((0 : Nat) + (↑i : Int).toNat).blt M, true), (B [(0 : Nat) + (↑i : Int).toNat] == (255 : Int), true)] ∧ headOf Tryd.f34 (0 : Nat) = headOf Tryd.f34 (0 : Nat) ∧ (True ∧ raw = raw ∧ (0 : Nat) = (0 : Nat) ∧ ((0 : Nat) = (0 : Nat) ∧ T.length = T.length) ∧ ((0 : Nat) = (0 : Nat) ∧ N = N) ∧ (↑N : Int) = (↑N : Int) ∧ (↑(i + (1 : Nat)) : Int) = IntKind.i64.wrap ((↑i : Int) + (1 : Int))) ∧ (((↑(5 : Nat) : Int) = (5 : Int) ∧ (0 : Int) = (0 : Int) ∧ (↑cd : Int) = (↑cd : Int) ∧ (↑op : Int) = (↑op : Int) ∧ ((0 : Nat) = (0 : Nat) ∧ body.length = body.length) ∧ cu = cu) ∧ bh = bh ∧ false = false) ∧ (body.length = body.length ∧ ∀ (i : Nat), i < body.length → (↑(body.getD i (0 : UInt8)).toNat : Int) = (↑(body.getD i (0 : UInt8)).toNat : Int)) ∧ (T.length = T.length ∧ (∀ (i : Nat), i < T.length → kK T [i] = kK T [i]) ∧ (∀ (i : Nat), i < T.length → kC T [i] = kC T [i]) ∧ (∀ (i : Nat), i < T.length → kO T [i] = kO T [i]) ∧ ((∀ (i : Nat), i < T.length → kM T [i] = kM T [i]) ∧ ∀ (i : Nat), i < T.length → kL T [i] = kL T [i]) ∧ ∀ (i : Nat), i < T.length → kU T [i] = kU T [i]) ∧ T.length = T.length ∧ ∀ (m : Nat), m < T.length → gL T m = gL T m ∧ ∀ (i : Nat), i < gL T m → gB T [m, i] = gB T [m, i]) := by kernel_rfl

set_option maxHeartbeats 4000000 in
theorem k4e (N M : Nat) (B : Ix → Int) (raw : Bool) (T : List Tk) (cd op : Nat) (body : List UInt8) (cu bh : Bool) (i : Nat) (c : UInt8) (hi : i < N) (hN : N ≤ 400000) (hT : T.length ≤ 400000) (hl : body.length ≤ 256) (hb : B [i] = (c.toNat : Int)) (hc : c.toNat < 256) (hcd : cd < 256) (hop : op < 256) (hM : N ≤ M) (h : c.toNat = 255)  (v : SV) (L' : HF) (next : RunsTo Tryd.prog 34 (headOf Tryd.f34 0) (envAt Tryd.f34.ntmps ([(1, .v .vl0), (2, vB raw), (7, vP 101), (8, vL 102 5 (T).length), (15, vL 60 1 N), (16, vN N), (17, vN (i + 1 : Nat))])) (Sx.look (rB 60 M B ++ (clK 101 104 5 cd op body cu bh ++ toK 102 103 T))) 80 (v) (L') 420) :
    RunsTo Tryd.prog 34 (headOf Tryd.f34 0) (envAt Tryd.f34.ntmps ([(1, .v .vl0), (2, vB raw), (7, vP 101), (8, vL 102 5 (T).length), (15, vL 60 1 N), (16, vN N), (17, vN (i : Nat))])) (Sx.look (rB 60 M B ++ (clK 101 104 4 cd op body cu bh ++ toK 102 103 T))) 80 (v) (L') 420 := by
  have hw : IntKind.i64.wrap ((i : Int) + 1) = ((i + 1 : Nat) : Int) := by rw [wr64 (by omega)]; rfl
  have hb8 : IntKind.i64.wrap (c.toNat : Int) = (c.toNat : Int) := wr64 (by omega)
  have hu8 : IntKind.u8.wrap (c.toNat : Int) = (c.toNat : Int) := u8id (by omega)
  refine runs_more baseO (More.of (k4e_p0 N M B raw T cd op body cu bh i c) ⟨?oo, rfl, ?rr⟩) (by kernel_rfl) (by kernel_rfl) rfl (gtL (by decide)) (by decide) next
  case oo =>
    clear next
    refine (okc ?_ (okc ?_ (okc ?_ (okc ?_ (okc ?_ okn)))))
    all_goals ((try simp (disch := omega) only [SS, hw, hb, hb8, hu8]); first | done | omega | assumption | (simp (disch := omega) only [SS, hw, hb, hb8, hu8] at *; first | done | omega | assumption) | (simp_all; done))
  case rr =>
    clear next
    simp (disch := omega) only [SS, hw, hb, hb8, hu8, Go.Sx.sum, List.length_append, List.length_cons, List.length_nil, Nat.zero_add]
    repeat' apply And.intro
    all_goals first | exact True.intro | with_reducible rfl | omega | exact kK_app T _ _ rfl | exact kC_app T _ _ rfl | exact kO_app T _ _ rfl | exact kL_app T _ _ rfl | exact kU_app T _ _ rfl | exact kM_app T _ _ _ (fun k hk => rfl) rfl | exact gL_cons T _ _ rfl | (intro m hm; exact ⟨gL_cons T _ _ rfl m hm, fun j hj => gB_cons T _ _ m hm j (fun j hj => by first | exact absurd hj (Nat.not_lt_zero _) | rfl | (simp [mk5]; done) | (simp [mk5, appF, subIx]; done)) hj⟩) | (intro k hk; exact app_byte1 body _ _ (by first | exact hb | (simpa [subIx] using hb) | (simp only [subIx, List.tail]; simp_all)) k hk) | (intro k hk; exact kC_app T _ _ (by first | rfl | (simp [mk5]; done) | (simp [mk5]; omega)) k hk) | (simp [subIx, hb]; done) | (simp_all [subIx]; done) | (intros; simp_all; done) | exact eq13 _ | exact (eq13 _).symm | (rw [Bool.eq_iff_iff]; simp; done) | (rw [Bool.eq_iff_iff]; simp; omega) | (simp_all; exact (eq13 _).symm) | (simp_all; exact eq13 _) | (simp_all; done)

theorem k4_p0 (N M : Nat) (B : Ix → Int) (raw : Bool) (T : List Tk) (cd op : Nat) (body : List UInt8) (cu bh : Bool) (i : Nat) (c : UInt8) :
    isMore (evTill Tryd.prog [] 700 (behind Tryd.f34 0) 900 34 (headOf Tryd.f34 0) (envAt Tryd.f34.ntmps ([(1, .v .vl0), (2, vB raw), (7, vP 101), (8, vL 102 5 (T).length), (15, vL 60 1 N), (16, vN N), (17, vN (i : Nat))])) (rB 60 M B ++ (clK 101 104 4 cd op body cu bh ++ toK 102 103 T)) ⟨[.s true, .s true, .s true, .s true, .f, .f, .f, .f, .f, .t, .s false, .s false, .t, .s true, .s true, .t, .f], 130⟩) (moreP (headOf Tryd.f34 0) ([((104 : Nat), Rn.to (134 : Nat))]) Tryd.f34.ntmps ([(1, .v .vl0), (2, vB raw), (7, vP 101), (8, vL 102 5 (T).length), (15, vL 60 1 N), (16, vN N), (17, vN (i + 1 : Nat))]) (clK 101 104 4 cd op (body ++ [c]) cu bh ++ toK 102 103 T) 420) =
    (OkL [(decide ((↑i : Int) < (↑N : Int)), true), (decide ((0 : Int) ≤ (↑i : Int) ∧ (↑i : Int) < (↑N : Int)), true), (((0 : Nat) + (↑i : Int).toNat).blt M, true), (((0 : Nat) + (↑i : Int).toNat).blt M, true), (B [(0 : Nat) + (↑i : Int).toNat] == (255 : Int), false), (decide ((↑body.length : Int) ≥ (256 : Int)), false), (((0 : Nat) + body.length).ble body.length, true), (decide (((2 : Nat) * (body.length + (1 : Nat)) + (192 : Nat)) * (1 : Nat) ≤ (281474976710656 : Nat)), true)] ∧ headOf Tryd.f34 (0 : Nat) = headOf Tryd.f34 (0 : Nat) ∧ (True ∧ raw = raw ∧ (0 : Nat) = (0 : Nat) ∧ ((0 : Nat) = (0 : Nat) ∧ T.length = T.length) ∧ ((0 : Nat) = (0 : Nat) ∧ N = N) ∧ (↑N : Int) = (↑N : Int) ∧ (↑(i + (1 : Nat)) : Int) = IntKind.i64.wrap ((↑i : Int) + (1 : Int))) ∧ (((↑(4 : Nat) : Int) = (↑(4 : Nat) : Int) ∧ (0 : Int) = (0 : Int) ∧ (↑cd : Int) = (↑cd : Int) ∧ (↑op : Int) = (↑op : Int) ∧ ((0 : Nat) = (0 : Nat) ∧ (body ++ [c]).length = body.length + (1 : Nat)) ∧ cu = cu) ∧ bh = bh ∧ false = false) ∧ ((body ++ [c]).length = body.length + (1 : Nat) ∧ ∀ (i_1 : Nat), i_1 < (body ++ [c]).length → (↑((body ++ [c]).getD i_1 (0 : UInt8)).toNat : Int) = appF body.length (0 : Nat) (fun is => (↑(body.getD (List.headD is (0 : Nat)) (0 : UInt8)).toNat : Int)) (fun js => B (((0 : Nat) + (↑i : Int).toNat) :: List.tail (subIx (0 : Nat) js))) [i_1]) ∧ (T.length = T.length ∧ (∀ (i : Nat), i < T.length → kK T [i] = kK T [i]) ∧ (∀ (i : Nat), i < T.length → kC T [i] = kC T [i]) ∧ (∀ (i : Nat), i < T.length → kO T [i] = kO T [i]) ∧ ((∀ (i : Nat), i < T.length → kM T [i] = kM T [i]) ∧ ∀ (i : Nat), i < T.length → kL T [i] = kL T [i]) ∧ ∀ (i : Nat), i < T.length → kU T [i] = kU T [i]) ∧ T.length = T.length ∧ ∀ (m : Nat), m < T.length → gL T m = gL T m ∧ ∀ (i : Nat), i < gL T m → gB T [m, i] = gB T [m, i]) := by kernel_rfl

set_option maxHeartbeats 4000000 in
theorem k4 (N M : Nat) (B : Ix → Int) (raw : Bool) (T : List Tk) (cd op : Nat) (body : List UInt8) (cu bh : Bool) (i : Nat) (c : UInt8) (hi : i < N) (hN : N ≤ 400000) (hT : T.length ≤ 400000) (hl : body.length ≤ 256) (hb : B [i] = (c.toNat : Int)) (hc : c.toNat < 256) (hcd : cd < 256) (hop : op < 256) (hM : N ≤ M) (h : c.toNat ≠ 255) (hf : body.length < 256)  (v : SV) (L' : HF) (next : RunsTo Tryd.prog 34 (headOf Tryd.f34 0) (envAt Tryd.f34.ntmps ([(1, .v .vl0), (2, vB raw), (7, vP 101), (8, vL 102 5 (T).length), (15, vL 60 1 N), (16, vN N), (17, vN (i + 1 : Nat))])) (Sx.look (rB 60 M B ++ (clK 101 104 4 cd op (body ++ [c]) cu bh ++ toK 102 103 T))) 80 (v) (L') 420) :
    RunsTo Tryd.prog 34 (headOf Tryd.f34 0) (envAt Tryd.f34.ntmps ([(1, .v .vl0), (2, vB raw), (7, vP 101), (8, vL 102 5 (T).length), (15, vL 60 1 N), (16, vN N), (17, vN (i : Nat))])) (Sx.look (rB 60 M B ++ (clK 101 104 4 cd op body cu bh ++ toK 102 103 T))) 80 (v) (L') 420 := by
  have hw : IntKind.i64.wrap ((i : Int) + 1) = ((i + 1 : Nat) : Int) := by rw [wr64 (by omega)]; rfl
  have hb8 : IntKind.i64.wrap (c.toNat : Int) = (c.toNat : Int) := wr64 (by omega)
  have hu8 : IntKind.u8.wrap (c.toNat : Int) = (c.toNat : Int) := u8id (by omega)
  refine runs_more baseO (More.of (k4_p0 N M B raw T cd op body cu bh i c) ⟨?oo, rfl, ?rr⟩) (by kernel_rfl) (by kernel_rfl) rfl (gtL (by decide)) (by decide) next
  case oo =>
    clear next
    refine (okc ?_ (okc ?_ (okc ?_ (okc ?_ (okc ?_ (okc ?_ (okc ?_ (okc ?_ okn))))))))
    all_goals ((try simp (disch := omega) only [SS, hw, hb, hb8, hu8]); first | done | omega | assumption | (simp (disch := omega) only [SS, hw, hb, hb8, hu8] at *; first | done | omega | assumption) | (simp_all; done))
  case rr =>
    clear next
    simp (disch := omega) only [SS, hw, hb, hb8, hu8, Go.Sx.sum, List.length_append, List.length_cons, List.length_nil, Nat.zero_add]
    repeat' apply And.intro
    all_goals first | exact True.intro | with_reducible rfl | omega | exact kK_app T _ _ rfl | exact kC_app T _ _ rfl | exact kO_app T _ _ rfl | exact kL_app T _ _ rfl | exact kU_app T _ _ rfl | exact kM_app T _ _ _ (fun k hk => rfl) rfl | exact gL_cons T _ _ rfl | (intro m hm; exact ⟨gL_cons T _ _ rfl m hm, fun j hj => gB_cons T _ _ m hm j (fun j hj => by first | exact absurd hj (Nat.not_lt_zero _) | rfl | (simp [mk5]; done) | (simp [mk5, appF, subIx]; done)) hj⟩) | (intro k hk; exact app_byte1 body _ _ (by first | exact hb | (simpa [subIx] using hb) | (simp only [subIx, List.tail]; simp_all)) k hk) | (intro k hk; exact kC_app T _ _ (by first | rfl | (simp [mk5]; done) | (simp [mk5]; omega)) k hk) | (simp [subIx, hb]; done) | (simp_all [subIx]; done) | (intros; simp_all; done) | exact eq13 _ | exact (eq13 _).symm | (rw [Bool.eq_iff_iff]; simp; done) | (rw [Bool.eq_iff_iff]; simp; omega) | (simp_all; exact (eq13 _).symm) | (simp_all; exact eq13 _) | (simp_all; done)

theorem k4c_p0 (N M : Nat) (B : Ix → Int) (raw : Bool) (T : List Tk) (cd op : Nat) (body : List UInt8) (cu bh : Bool) (i : Nat) (c : UInt8) :
    isMore (evTill Tryd.prog [] 700 (behind Tryd.f34 0) 900 34 (headOf Tryd.f34 0) (envAt Tryd.f34.ntmps ([(1, .v .vl0), (2, vB raw), (7, vP 101), (8, vL 102 5 (T).length), (15, vL 60 1 N), (16, vN N), (17, vN (i : Nat))])) (rB 60 M B ++ (clK 101 104 4 cd op body cu bh ++ toK 102 103 T)) ⟨[.s true, .s true, .s true, .s true, .f, .f, .f, .f, .f, .t, .s false, .s true, .t, .f], 130⟩) (moreP (headOf Tryd.f34 0) ([]) Tryd.f34.ntmps ([(1, .v .vl0), (2, vB raw), (7, vP 101), (8, vL 102 5 (T).length), (15, vL 60 1 N), (16, vN N), (17, vN (i + 1 : Nat))]) (clK 101 104 4 cd op body true bh ++ toK 102 103 T) 420) =
    (OkL [(decide ((↑i : Int) < (↑N : Int)), true), (decide ((0 : Int) ≤ (↑i : Int) ∧ (↑i : Int) < (↑N : Int)), true), (((0 : Nat) + (↑i : Int).toNat).blt M, true), (((0 : Nat) + (↑i : Int).toNat).blt M, true), (B [(0 : Nat) + (↑i : Int).toNat] == (255 : Int), false), (decide ((↑body.length : Int) ≥ (256 : Int)), true)] ∧ headOf Tryd.f34 (0 : Nat) = headOf Tryd.f34 (0 : Nat) ∧ (True ∧ raw = raw ∧ (0 : Nat) = (0 : Nat) ∧ ((0 : Nat) = (0 : Nat) ∧ T.length = T.length) ∧ ((0 : Nat) = (0 : Nat) ∧ N = N) ∧ (↑N : Int) = (↑N : Int) ∧ (↑(i + (1 : Nat)) : Int) = IntKind.i64.wrap ((↑i : Int) + (1 : Int))) ∧ (((↑(4 : Nat) : Int) = (↑(4 : Nat) : Int) ∧ (0 : Int) = (0 : Int) ∧ (↑cd : Int) = (↑cd : Int) ∧ (↑op : Int) = (↑op : Int) ∧ ((0 : Nat) = (0 : Nat) ∧ body.length = body.length) ∧ true = true) ∧ bh = bh ∧ false = false) ∧ (body.length = body.length ∧ ∀ (i : Nat), i < body.length → (↑(body.getD i (0 : UInt8)).toNat : Int) = (↑(body.getD i (0 : UInt8)).toNat : Int)) ∧ (T.length = T.length ∧ (∀ (i : Nat), i < T.length → kK T [i] = kK T [i]) ∧ (∀ (i : Nat), i < T.length → kC T [i] = kC T [i]) ∧ (∀ (i : Nat), i < T.length → kO T [i] = kO T [i]) ∧ ((∀ (i : Nat), i < T.length → kM T [i] = kM T [i]) ∧ ∀ (i : Nat), i < T.length → kL T [i] = kL T [i]) ∧ ∀ (i : Nat), i < T.length → kU T [i] = kU T [i]) ∧ T.length = T.length ∧ ∀ (m : Nat), m < T.length → gL T m = gL T m ∧ ∀ (i : Nat), i < gL T m → gB T [m, i] = gB T [m, i]) := by kernel_rfl

set_option maxHeartbeats 4000000 in
theorem k4c (N M : Nat) (B : Ix → Int) (raw : Bool) (T : List Tk) (cd op : Nat) (body : List UInt8) (cu bh : Bool) (i : Nat) (c : UInt8) (hi : i < N) (hN : N ≤ 400000) (hT : T.length ≤ 400000) (hl : body.length ≤ 256) (hb : B [i] = (c.toNat : Int)) (hc : c.toNat < 256) (hcd : cd < 256) (hop : op < 256) (hM : N ≤ M) (h : c.toNat ≠ 255) (hf : 256 ≤ body.length)  (v : SV) (L' : HF) (next : RunsTo Tryd.prog 34 (headOf Tryd.f34 0) (envAt Tryd.f34.ntmps ([(1, .v .vl0), (2, vB raw), (7, vP 101), (8, vL 102 5 (T).length), (15, vL 60 1 N), (16, vN N), (17, vN (i + 1 : Nat))])) (Sx.look (rB 60 M B ++ (clK 101 104 4 cd op body true bh ++ toK 102 103 T))) 80 (v) (L') 420) :
    RunsTo Tryd.prog 34 (headOf Tryd.f34 0) (envAt Tryd.f34.ntmps ([(1, .v .vl0), (2, vB raw), (7, vP 101), (8, vL 102 5 (T).length), (15, vL 60 1 N), (16, vN N), (17, vN (i : Nat))])) (Sx.look (rB 60 M B ++ (clK 101 104 4 cd op body cu bh ++ toK 102 103 T))) 80 (v) (L') 420 := by
  have hw : IntKind.i64.wrap ((i : Int) + 1) = ((i + 1 : Nat) : Int) := by rw [wr64 (by omega)]; rfl
  have hb8 : IntKind.i64.wrap (c.toNat : Int) = (c.toNat : Int) := wr64 (by omega)
  have hu8 : IntKind.u8.wrap (c.toNat : Int) = (c.toNat : Int) := u8id (by omega)
  refine runs_more baseO (More.of (k4c_p0 N M B raw T cd op body cu bh i c) ⟨?oo, rfl, ?rr⟩) (by kernel_rfl) (by kernel_rfl) rfl (gtL (by decide)) (by decide) next
  case oo =>
    clear next
    refine (okc ?_ (okc ?_ (okc ?_ (okc ?_ (okc ?_ (okc ?_ okn))))))
    all_goals ((try simp (disch := omega) only [SS, hw, hb, hb8, hu8]); first | done | omega | assumption | (simp (disch := omega) only [SS, hw, hb, hb8, hu8] at *; first | done | omega | assumption) | (simp_all; done))
  case rr =>
    clear next
    simp (disch := omega) only [SS, hw, hb, hb8, hu8, Go.Sx.sum, List.length_append, List.length_cons, List.length_nil, Nat.zero_add]
    repeat' apply And.intro
    all_goals first | exact True.intro | with_reducible rfl | omega | exact kK_app T _ _ rfl | exact kC_app T _ _ rfl | exact kO_app T _ _ rfl | exact kL_app T _ _ rfl | exact kU_app T _ _ rfl | exact kM_app T _ _ _ (fun k hk => rfl) rfl | exact gL_cons T _ _ rfl | (intro m hm; exact ⟨gL_cons T _ _ rfl m hm, fun j hj => gB_cons T _ _ m hm j (fun j hj => by first | exact absurd hj (Nat.not_lt_zero _) | rfl | (simp [mk5]; done) | (simp [mk5, appF, subIx]; done)) hj⟩) | (intro k hk; exact app_byte1 body _ _ (by first | exact hb | (simpa [subIx] using hb) | (simp only [subIx, List.tail]; simp_all)) k hk) | (intro k hk; exact kC_app T _ _ (by first | rfl | (simp [mk5]; done) | (simp [mk5]; omega)) k hk) | (simp [subIx, hb]; done) | (simp_all [subIx]; done) | (intros; simp_all; done) | exact eq13 _ | exact (eq13 _).symm | (rw [Bool.eq_iff_iff]; simp; done) | (rw [Bool.eq_iff_iff]; simp; omega) | (simp_all; exact (eq13 _).symm) | (simp_all; exact eq13 _) | (simp_all; done)

theorem k5e_p0 (N M : Nat) (B : Ix → Int) (raw : Bool) (T : List Tk) (cd op : Nat) (body : List UInt8) (cu bh : Bool) (i : Nat) (c : UInt8) :
    isMore (evTill Tryd.prog [] 700 (behind Tryd.f34 0) 900 34 (headOf Tryd.f34 0) (envAt Tryd.f34.ntmps ([(1, .v .vl0), (2, vB raw), (7, vP 101), (8, vL 102 5 (T).length), (15, vL 60 1 N), (16, vN N), (17, vN (i : Nat))])) (rB 60 M B ++ (clK 101 104 5 cd op body cu bh ++ toK 102 103 T)) ⟨[.s true, .s true, .s true, .s true, .f, .f, .f, .f, .f, .f, .t, .s true, .s false, .t, .s true, .s true, .t, .f], 130⟩) (moreP (headOf Tryd.f34 0) ([((104 : Nat), Rn.to (134 : Nat))]) Tryd.f34.ntmps ([(1, .v .vl0), (2, vB raw), (7, vP 101), (8, vL 102 5 (T).length), (15, vL 60 1 N), (16, vN N), (17, vN (i + 1 : Nat))]) (clK 101 104 4 cd op (body ++ [255]) cu bh ++ toK 102 103 T) 420) =
    (OkL [(decide ((↑i : Int) < (↑N : Int)), true), (decide ((0 : Int) ≤ (↑i : Int) ∧ (↑i : Int) < (↑N : Int)), true), (((0 : Nat) + (↑i : Int).toNat).blt M, true), (((0 : Nat) + (↑i : Int).toNat).blt M, true), (B [(0 : Nat) + (↑i : Int).toNat] == (255 : Int), true), (decide ((↑body.length : Int) ≥ (256 : Int)), false), (((0 : Nat) + body.length).ble body.length, true), (decide (((2 : Nat) * (body.length + (1 : Nat)) + (192 : Nat)) * (1 : Nat) ≤ (281474976710656 : Nat)), true)] ∧ headOf Tryd.f34 (0 : Nat) = headOf Tryd.f34 (0 : Nat) ∧ (True ∧ raw = raw ∧ (0 : Nat) = (0 : Nat) ∧ ((0 : Nat) = (0 : Nat) ∧ T.length = T.length) ∧ ((0 : Nat) = (0 : Nat) ∧ N = N) ∧ (↑N : Int) = (↑N : Int) ∧ (↑(i + (1 : Nat)) : Int) = IntKind.i64.wrap ((↑i : Int) + (1 : Int))) ∧ (((↑(4 : Nat) : Int) = (4 : Int) ∧ (0 : Int) = (0 : Int) ∧ (↑cd : Int) = (↑cd : Int) ∧ (↑op : Int) = (↑op : Int) ∧ ((0 : Nat) = (0 : Nat) ∧ (body ++ [(255 : UInt8)]).length = body.length + (1 : Nat)) ∧ cu = cu) ∧ bh = bh ∧ false = false) ∧ ((body ++ [(255 : UInt8)]).length = body.length + (1 : Nat) ∧ ∀ (i_1 : Nat), i_1 < (body ++ [(255 : UInt8)]).length → (↑((body ++ [(255 : UInt8)]).getD i_1 (0 : UInt8)).toNat : Int) = appF body.length (0 : Nat) (fun is => (↑(body.getD (List.headD is (0 : Nat)) (0 : UInt8)).toNat : Int)) (fun js => B (((0 : Nat) + (↑i : Int).toNat) :: List.tail (subIx (0 : Nat) js))) [i_1]) ∧ (T.length = T.length ∧ (∀ (i : Nat), i < T.length → kK T [i] = kK T [i]) ∧ (∀ (i : Nat), i < T.length → kC T [i] = kC T [i]) ∧ (∀ (i : Nat), i < T.length → kO T [i] = kO T [i]) ∧ ((∀ (i : Nat), i < T.length → kM T [i] = kM T [i]) ∧ ∀ (i : Nat), i < T.length → kL T [i] = kL T [i]) ∧ ∀ (i : Nat), i < T.length → kU T [i] = kU T [i]) ∧ T.length = T.length ∧ ∀ (m : Nat), m < T.length → gL T m = gL T m ∧ ∀ (i : Nat), i < gL T m → gB T [m, i] = gB T [m, i]) := by kernel_rfl

set_option maxHeartbeats 4000000 in
theorem k5e (N M : Nat) (B : Ix → Int) (raw : Bool) (T : List Tk) (cd op : Nat) (body : List UInt8) (cu bh : Bool) (i : Nat) (c : UInt8) (hi : i < N) (hN : N ≤ 400000) (hT : T.length ≤ 400000) (hl : body.length ≤ 256) (hb : B [i] = (c.toNat : Int)) (hc : c.toNat < 256) (hcd : cd < 256) (hop : op < 256) (hM : N ≤ M) (h : c.toNat = 255) (hf : body.length < 256)  (v : SV) (L' : HF) (next : RunsTo Tryd.prog 34 (headOf Tryd.f34 0) (envAt Tryd.f34.ntmps ([(1, .v .vl0), (2, vB raw), (7, vP 101), (8, vL 102 5 (T).length), (15, vL 60 1 N), (16, vN N), (17, vN (i + 1 : Nat))])) (Sx.look (rB 60 M B ++ (clK 101 104 4 cd op (body ++ [255]) cu bh ++ toK 102 103 T))) 80 (v) (L') 420) :
    RunsTo Tryd.prog 34 (headOf Tryd.f34 0) (envAt Tryd.f34.ntmps ([(1, .v .vl0), (2, vB raw), (7, vP 101), (8, vL 102 5 (T).length), (15, vL 60 1 N), (16, vN N), (17, vN (i : Nat))])) (Sx.look (rB 60 M B ++ (clK 101 104 5 cd op body cu bh ++ toK 102 103 T))) 80 (v) (L') 420 := by
  have hw : IntKind.i64.wrap ((i : Int) + 1) = ((i + 1 : Nat) : Int) := by rw [wr64 (by omega)]; rfl
  have hb8 : IntKind.i64.wrap (c.toNat : Int) = (c.toNat : Int) := wr64 (by omega)
  have hu8 : IntKind.u8.wrap (c.toNat : Int) = (c.toNat : Int) := u8id (by omega)
  refine runs_more baseO (More.of (k5e_p0 N M B raw T cd op body cu bh i c) ⟨?oo, rfl, ?rr⟩) (by kernel_rfl) (by kernel_rfl) rfl (gtL (by decide)) (by decide) next
  case oo =>
    clear next
    refine (okc ?_ (okc ?_ (okc ?_ (okc ?_ (okc ?_ (okc ?_ (okc ?_ (okc ?_ okn))))))))
    all_goals ((try simp (disch := omega) only [SS, hw, hb, hb8, hu8]); first | done | omega | assumption | (simp (disch := omega) only [SS, hw, hb, hb8, hu8] at *; first | done | omega | assumption) | (simp_all; done))
  case rr =>
    clear next
    simp (disch := omega) only [SS, hw, hb, hb8, hu8, Go.Sx.sum, List.length_append, List.length_cons, List.length_nil, Nat.zero_add]
    repeat' apply And.intro
    all_goals first | exact True.intro | with_reducible rfl | omega | exact kK_app T _ _ rfl | exact kC_app T _ _ rfl | exact kO_app T _ _ rfl | exact kL_app T _ _ rfl | exact kU_app T _ _ rfl | exact kM_app T _ _ _ (fun k hk => rfl) rfl | exact gL_cons T _ _ rfl | (intro m hm; exact ⟨gL_cons T _ _ rfl m hm, fun j hj => gB_cons T _ _ m hm j (fun j hj => by first | exact absurd hj (Nat.not_lt_zero _) | rfl | (simp [mk5]; done) | (simp [mk5, appF, subIx]; done)) hj⟩) | (intro k hk; exact app_byte1 body _ _ (by first | exact hb | (simpa [subIx] using hb) | (simp only [subIx, List.tail]; simp_all)) k hk) | (intro k hk; exact kC_app T _ _ (by first | rfl | (simp [mk5]; done) | (simp [mk5]; omega)) k hk) | (simp [subIx, hb]; done) | (simp_all [subIx]; done) | (intros; simp_all; done) | exact eq13 _ | exact (eq13 _).symm | (rw [Bool.eq_iff_iff]; simp; done) | (rw [Bool.eq_iff_iff]; simp; omega) | (simp_all; exact (eq13 _).symm) | (simp_all; exact eq13 _) | (simp_all; done)

theorem k5c_p0 (N M : Nat) (B : Ix → Int) (raw : Bool) (T : List Tk) (cd op : Nat) (body : List UInt8) (cu bh : Bool) (i : Nat) (c : UInt8) :
    isMore (evTill Tryd.prog [] 700 (behind Tryd.f34 0) 900 34 (headOf Tryd.f34 0) (envAt Tryd.f34.ntmps ([(1, .v .vl0), (2, vB raw), (7, vP 101), (8, vL 102 5 (T).length), (15, vL 60 1 N), (16, vN N), (17, vN (i : Nat))])) (rB 60 M B ++ (clK 101 104 5 cd op body cu bh ++ toK 102 103 T)) ⟨[.s true, .s true, .s true, .s true, .f, .f, .f, .f, .f, .f, .t, .s true, .s true, .t, .f], 130⟩) (moreP (headOf Tryd.f34 0) ([]) Tryd.f34.ntmps ([(1, .v .vl0), (2, vB raw), (7, vP 101), (8, vL 102 5 (T).length), (15, vL 60 1 N), (16, vN N), (17, vN (i + 1 : Nat))]) (clK 101 104 4 cd op body true bh ++ toK 102 103 T) 420) =
    (OkL [(decide ((↑i : Int) < (↑N : Int)), true), (decide ((0 : Int) ≤ (↑i : Int) ∧ (↑i : Int) < (↑N : Int)), true), (((0 : Nat) + (↑i : Int).toNat).blt M, true), (((0 : Nat) + (↑i : Int).toNat).blt M, true), (B [(0 : Nat) + (↑i : Int).toNat] == (255 : Int), true), (decide ((↑body.length : Int) ≥ (256 : Int)), true)] ∧ headOf Tryd.f34 (0 : Nat) = headOf Tryd.f34 (0 : Nat) ∧ (True ∧ raw = raw ∧ (0 : Nat) = (0 : Nat) ∧ ((0 : Nat) = (0 : Nat) ∧ T.length = T.length) ∧ ((0 : Nat) = (0 : Nat) ∧ N = N) ∧ (↑N : Int) = (↑N : Int) ∧ (↑(i + (1 : Nat)) : Int) = IntKind.i64.wrap ((↑i : Int) + (1 : Int))) ∧ (((↑(4 : Nat) : Int) = (4 : Int) ∧ (0 : Int) = (0 : Int) ∧ (↑cd : Int) = (↑cd : Int) ∧ (↑op : Int) = (↑op : Int) ∧ ((0 : Nat) = (0 : Nat) ∧ body.length = body.length) ∧ true = true) ∧ bh = bh ∧ false = false) ∧ (body.length = body.length ∧ ∀ (i : Nat), i < body.length → (↑(body.getD i (0 : UInt8)).toNat : Int) = (↑(body.getD i (0 : UInt8)).toNat : Int)) ∧ (T.length = T.length ∧ (∀ (i : Nat), i < T.length → kK T [i] = kK T [i]) ∧ (∀ (i : Nat), i < T.length → kC T [i] = kC T [i]) ∧ (∀ (i : Nat), i < T.length → kO T [i] = kO T [i]) ∧ ((∀ (i : Nat), i < T.length → kM T [i] = kM T [i]) ∧ ∀ (i : Nat), i < T.length → kL T [i] = kL T [i]) ∧ ∀ (i : Nat), i < T.length → kU T [i] = kU T [i]) ∧ T.length = T.length ∧ ∀ (m : Nat), m < T.length → gL T m = gL T m ∧ ∀ (i : Nat), i < gL T m → gB T [m, i] = gB T [m, i]) := by kernel_rfl

set_option maxHeartbeats 4000000 in
theorem k5c (N M : Nat) (B : Ix → Int) (raw : Bool) (T : List Tk) (cd op : Nat) (body : List UInt8) (cu bh : Bool) (i : Nat) (c : UInt8) (hi : i < N) (hN : N ≤ 400000) (hT : T.length ≤ 400000) (hl : body.length ≤ 256) (hb : B [i] = (c.toNat : Int)) (hc : c.toNat < 256) (hcd : cd < 256) (hop : op < 256) (hM : N ≤ M) (h : c.toNat = 255) (hf : 256 ≤ body.length)  (v : SV) (L' : HF) (next : RunsTo Tryd.prog 34 (headOf Tryd.f34 0) (envAt Tryd.f34.ntmps ([(1, .v .vl0), (2, vB raw), (7, vP 101), (8, vL 102 5 (T).length), (15, vL 60 1 N), (16, vN N), (17, vN (i + 1 : Nat))])) (Sx.look (rB 60 M B ++ (clK 101 104 4 cd op body true bh ++ toK 102 103 T))) 80 (v) (L') 420) :
    RunsTo Tryd.prog 34 (headOf Tryd.f34 0) (envAt Tryd.f34.ntmps ([(1, .v .vl0), (2, vB raw), (7, vP 101), (8, vL 102 5 (T).length), (15, vL 60 1 N), (16, vN N), (17, vN (i : Nat))])) (Sx.look (rB 60 M B ++ (clK 101 104 5 cd op body cu bh ++ toK 102 103 T))) 80 (v) (L') 420 := by
  have hw : IntKind.i64.wrap ((i : Int) + 1) = ((i + 1 : Nat) : Int) := by rw [wr64 (by omega)]; rfl
  have hb8 : IntKind.i64.wrap (c.toNat : Int) = (c.toNat : Int) := wr64 (by omega)
  have hu8 : IntKind.u8.wrap (c.toNat : Int) = (c.toNat : Int) := u8id (by omega)
  refine runs_more baseO (More.of (k5c_p0 N M B raw T cd op body cu bh i c) ⟨?oo, rfl, ?rr⟩) (by kernel_rfl) (by kernel_rfl) rfl (gtL (by decide)) (by decide) next
  case oo =>
    clear next
    refine (okc ?_ (okc ?_ (okc ?_ (okc ?_ (okc ?_ (okc ?_ okn))))))
    all_goals ((try simp (disch := omega) only [SS, hw, hb, hb8, hu8]); first | done | omega | assumption | (simp (disch := omega) only [SS, hw, hb, hb8, hu8] at *; first | done | omega | assumption) | (simp_all; done))
  case rr =>
    clear next
    simp (disch := omega) only [SS, hw, hb, hb8, hu8, Go.Sx.sum, List.length_append, List.length_cons, List.length_nil, Nat.zero_add]
    repeat' apply And.intro
    all_goals first | exact True.intro | with_reducible rfl | omega | exact kK_app T _ _ rfl | exact kC_app T _ _ rfl | exact kO_app T _ _ rfl | exact kL_app T _ _ rfl | exact kU_app T _ _ rfl | exact kM_app T _ _ _ (fun k hk => rfl) rfl | exact gL_cons T _ _ rfl | (intro m hm; exact ⟨gL_cons T _ _ rfl m hm, fun j hj => gB_cons T _ _ m hm j (fun j hj => by first | exact absurd hj (Nat.not_lt_zero _) | rfl | (simp [mk5]; done) | (simp [mk5, appF, subIx]; done)) hj⟩) | (intro k hk; exact app_byte1 body _ _ (by first | exact hb | (simpa [subIx] using hb) | (simp only [subIx, List.tail]; simp_all)) k hk) | (intro k hk; exact kC_app T _ _ (by first | rfl | (simp [mk5]; done) | (simp [mk5]; omega)) k hk) | (simp [subIx, hb]; done) | (simp_all [subIx]; done) | (intros; simp_all; done) | exact eq13 _ | exact (eq13 _).symm | (rw [Bool.eq_iff_iff]; simp; done) | (rw [Bool.eq_iff_iff]; simp; omega) | (simp_all; exact (eq13 _).symm) | (simp_all; exact eq13 _) | (simp_all; done)

theorem kP_p0 (N M : Nat) (B : Ix → Int) (raw : Bool) (T : List Tk) (cd op : Nat) (body : List UInt8) (cu bh : Bool) (i : Nat) (c : UInt8) :
    isMore (evTill Tryd.prog [] 700 (behind Tryd.f34 0) 900 34 (headOf Tryd.f34 0) (envAt Tryd.f34.ntmps ([(1, .v .vl0), (2, vB raw), (7, vP 101), (8, vL 102 5 (T).length), (15, vL 60 1 N), (16, vN N), (17, vN (i : Nat))])) (rB 60 M B ++ (clK 101 104 1 cd op body cu bh ++ toK 102 103 T)) ⟨[.s true, .s true, .s true, .s true, .f, .f, .t, .s false, .s false, .s false, .f, .f, .t, .s false, .t, .f, .t, .t, .s true, .s true], 130⟩) (moreP (headOf Tryd.f34 0) ([((102 : Nat), Rn.to (138 : Nat)), ((104 : Nat), Rn.nil (1 : Nat)), ((103 : Nat), Rn.to (137 : Nat))]) Tryd.f34.ntmps ([(1, .v .vl0), (2, vB raw), (7, vP 101), (8, vL 102 5 ((T ++ [mk5 2 c.toNat 0 [] false])).length), (15, vL 60 1 N), (16, vN N), (17, vN (i + 1 : Nat))]) (clK 101 104 0 0 0 ([] : List UInt8) false bh ++ toK 102 103 (T ++ [mk5 2 c.toNat 0 [] false])) 420) =
    (OkL [(decide ((↑i : Int) < (↑N : Int)), true), (decide ((0 : Int) ≤ (↑i : Int) ∧ (↑i : Int) < (↑N : Int)), true), (((0 : Nat) + (↑i : Int).toNat).blt M, true), (((0 : Nat) + (↑i : Int).toNat).blt M, true), (B [(0 : Nat) + (↑i : Int).toNat] == (255 : Int), false), (B [(0 : Nat) + (↑i : Int).toNat] == (250 : Int), false), (decide (IntKind.i64.wrap (B [(0 : Nat) + (↑i : Int).toNat]) ≥ (251 : Int)), false), (IntKind.i64.wrap (B [(0 : Nat) + (↑i : Int).toNat]) == (242 : Int), false), (((0 : Nat) + T.length).ble T.length, true), (decide (((2 : Nat) * (T.length + (1 : Nat)) + (192 : Nat)) * (56 : Nat) ≤ (281474976710656 : Nat)), true)] ∧ headOf Tryd.f34 (0 : Nat) = headOf Tryd.f34 (0 : Nat) ∧ (True ∧ raw = raw ∧ (0 : Nat) = (0 : Nat) ∧ ((0 : Nat) = (0 : Nat) ∧ (T ++ [mk5 (2 : Nat) c.toNat (0 : Nat) [] false]).length = T.length + (1 : Nat)) ∧ ((0 : Nat) = (0 : Nat) ∧ N = N) ∧ (↑N : Int) = (↑N : Int) ∧ (↑(i + (1 : Nat)) : Int) = IntKind.i64.wrap ((↑i : Int) + (1 : Int))) ∧ (((↑(0 : Nat) : Int) = (0 : Int) ∧ (0 : Int) = (0 : Int) ∧ (↑(0 : Nat) : Int) = (0 : Int) ∧ (↑(0 : Nat) : Int) = (0 : Int) ∧ (0 : Nat) = (0 : Nat) ∧ false = false) ∧ bh = bh ∧ false = false) ∧ (0 : Nat) = (0 : Nat) ∧ ((T ++ [mk5 (2 : Nat) c.toNat (0 : Nat) [] false]).length = T.length + (1 : Nat) ∧ (∀ (i : Nat), i < (T ++ [mk5 (2 : Nat) c.toNat (0 : Nat) [] false]).length → kK (T ++ [mk5 (2 : Nat) c.toNat (0 : Nat) [] false]) [i] = appF T.length (0 : Nat) (kK T) (fun js => (2 : Int)) [i]) ∧ (∀ (i_1 : Nat), i_1 < (T ++ [mk5 (2 : Nat) c.toNat (0 : Nat) [] false]).length → kC (T ++ [mk5 (2 : Nat) c.toNat (0 : Nat) [] false]) [i_1] = appF T.length (0 : Nat) (kC T) (fun js => IntKind.i64.wrap (B [(0 : Nat) + (↑i : Int).toNat])) [i_1]) ∧ (∀ (i : Nat), i < (T ++ [mk5 (2 : Nat) c.toNat (0 : Nat) [] false]).length → kO (T ++ [mk5 (2 : Nat) c.toNat (0 : Nat) [] false]) [i] = appF T.length (0 : Nat) (kO T) (fun js => (0 : Int)) [i]) ∧ ((∀ (i : Nat), i < (T ++ [mk5 (2 : Nat) c.toNat (0 : Nat) [] false]).length → kM (T ++ [mk5 (2 : Nat) c.toNat (0 : Nat) [] false]) [i] = appF T.length (0 : Nat) (fun is => kM T is + (1 : Nat)) (fun js => (0 : Nat)) [i]) ∧ ∀ (i : Nat), i < (T ++ [mk5 (2 : Nat) c.toNat (0 : Nat) [] false]).length → kL (T ++ [mk5 (2 : Nat) c.toNat (0 : Nat) [] false]) [i] = appF T.length (0 : Nat) (kL T) (fun js => (0 : Nat)) [i]) ∧ ∀ (i : Nat), i < (T ++ [mk5 (2 : Nat) c.toNat (0 : Nat) [] false]).length → kU (T ++ [mk5 (2 : Nat) c.toNat (0 : Nat) [] false]) [i] = appF T.length (0 : Nat) (kU T) (fun js => false) [i]) ∧ (T ++ [mk5 (2 : Nat) c.toNat (0 : Nat) [] false]).length = T.length + (1 : Nat) ∧ ∀ (m : Nat), m < (T ++ [mk5 (2 : Nat) c.toNat (0 : Nat) [] false]).length → gL (T ++ [mk5 (2 : Nat) c.toNat (0 : Nat) [] false]) m = consN (0 : Nat) (gL T) m ∧ ∀ (i : Nat), i < gL (T ++ [mk5 (2 : Nat) c.toNat (0 : Nat) [] false]) m → gB (T ++ [mk5 (2 : Nat) c.toNat (0 : Nat) [] false]) [m, i] = consF (gB T) (gB T) [m, i]) := by kernel_rfl
theorem kP_p1 (N M : Nat) (B : Ix → Int) (raw : Bool) (T : List Tk) (cd op : Nat) (body : List UInt8) (cu bh : Bool) (i : Nat) (c : UInt8) :
    isMore (evTill Tryd.prog [] 700 (behind Tryd.f34 0) 900 34 (headOf Tryd.f34 0) (envAt Tryd.f34.ntmps ([(1, .v .vl0), (2, vB raw), (7, vP 101), (8, vL 102 5 (T).length), (15, vL 60 1 N), (16, vN N), (17, vN (i : Nat))])) (rB 60 M B ++ (clK 101 104 1 cd op body cu bh ++ toK 102 103 T)) ⟨[.s true, .s true, .s true, .s true, .f, .f, .t, .s false, .s false, .s false, .f, .f, .t, .s true, .f, .t, .t, .s true, .s true], 130⟩) (moreP (headOf Tryd.f34 0) ([((102 : Nat), Rn.to (138 : Nat)), ((104 : Nat), Rn.nil (1 : Nat)), ((103 : Nat), Rn.to (137 : Nat))]) Tryd.f34.ntmps ([(1, .v .vl0), (2, vB raw), (7, vP 101), (8, vL 102 5 ((T ++ [mk5 2 c.toNat 0 [] false])).length), (15, vL 60 1 N), (16, vN N), (17, vN (i + 1 : Nat))]) (clK 101 104 0 0 0 ([] : List UInt8) false bh ++ toK 102 103 (T ++ [mk5 2 c.toNat 0 [] false])) 420) =
    (OkL [(decide ((↑i : Int) < (↑N : Int)), true), (decide ((0 : Int) ≤ (↑i : Int) ∧ (↑i : Int) < (↑N : Int)), true), (((0 : Nat) + (↑i : Int).toNat).blt M, true), (((0 : Nat) + (↑i : Int).toNat).blt M, true), (B [(0 : Nat) + (↑i : Int).toNat] == (255 : Int), false), (B [(0 : Nat) + (↑i : Int).toNat] == (250 : Int), false), (decide (IntKind.i64.wrap (B [(0 : Nat) + (↑i : Int).toNat]) ≥ (251 : Int)), false), (IntKind.i64.wrap (B [(0 : Nat) + (↑i : Int).toNat]) == (242 : Int), true), (((0 : Nat) + T.length).ble T.length, true), (decide (((2 : Nat) * (T.length + (1 : Nat)) + (192 : Nat)) * (56 : Nat) ≤ (281474976710656 : Nat)), true)] ∧ headOf Tryd.f34 (0 : Nat) = headOf Tryd.f34 (0 : Nat) ∧ (True ∧ raw = raw ∧ (0 : Nat) = (0 : Nat) ∧ ((0 : Nat) = (0 : Nat) ∧ (T ++ [mk5 (2 : Nat) c.toNat (0 : Nat) [] false]).length = T.length + (1 : Nat)) ∧ ((0 : Nat) = (0 : Nat) ∧ N = N) ∧ (↑N : Int) = (↑N : Int) ∧ (↑(i + (1 : Nat)) : Int) = IntKind.i64.wrap ((↑i : Int) + (1 : Int))) ∧ (((↑(0 : Nat) : Int) = (0 : Int) ∧ (0 : Int) = (0 : Int) ∧ (↑(0 : Nat) : Int) = (0 : Int) ∧ (↑(0 : Nat) : Int) = (0 : Int) ∧ (0 : Nat) = (0 : Nat) ∧ false = false) ∧ bh = bh ∧ false = false) ∧ (0 : Nat) = (0 : Nat) ∧ ((T ++ [mk5 (2 : Nat) c.toNat (0 : Nat) [] false]).length = T.length + (1 : Nat) ∧ (∀ (i : Nat), i < (T ++ [mk5 (2 : Nat) c.toNat (0 : Nat) [] false]).length → kK (T ++ [mk5 (2 : Nat) c.toNat (0 : Nat) [] false]) [i] = appF T.length (0 : Nat) (kK T) (fun js => (2 : Int)) [i]) ∧ (∀ (i_1 : Nat), i_1 < (T ++ [mk5 (2 : Nat) c.toNat (0 : Nat) [] false]).length → kC (T ++ [mk5 (2 : Nat) c.toNat (0 : Nat) [] false]) [i_1] = appF T.length (0 : Nat) (kC T) (fun js => IntKind.i64.wrap (B [(0 : Nat) + (↑i : Int).toNat])) [i_1]) ∧ (∀ (i : Nat), i < (T ++ [mk5 (2 : Nat) c.toNat (0 : Nat) [] false]).length → kO (T ++ [mk5 (2 : Nat) c.toNat (0 : Nat) [] false]) [i] = appF T.length (0 : Nat) (kO T) (fun js => (0 : Int)) [i]) ∧ ((∀ (i : Nat), i < (T ++ [mk5 (2 : Nat) c.toNat (0 : Nat) [] false]).length → kM (T ++ [mk5 (2 : Nat) c.toNat (0 : Nat) [] false]) [i] = appF T.length (0 : Nat) (fun is => kM T is + (1 : Nat)) (fun js => (0 : Nat)) [i]) ∧ ∀ (i : Nat), i < (T ++ [mk5 (2 : Nat) c.toNat (0 : Nat) [] false]).length → kL (T ++ [mk5 (2 : Nat) c.toNat (0 : Nat) [] false]) [i] = appF T.length (0 : Nat) (kL T) (fun js => (0 : Nat)) [i]) ∧ ∀ (i : Nat), i < (T ++ [mk5 (2 : Nat) c.toNat (0 : Nat) [] false]).length → kU (T ++ [mk5 (2 : Nat) c.toNat (0 : Nat) [] false]) [i] = appF T.length (0 : Nat) (kU T) (fun js => false) [i]) ∧ (T ++ [mk5 (2 : Nat) c.toNat (0 : Nat) [] false]).length = T.length + (1 : Nat) ∧ ∀ (m : Nat), m < (T ++ [mk5 (2 : Nat) c.toNat (0 : Nat) [] false]).length → gL (T ++ [mk5 (2 : Nat) c.toNat (0 : Nat) [] false]) m = consN (0 : Nat) (gL T) m ∧ ∀ (i : Nat), i < gL (T ++ [mk5 (2 : Nat) c.toNat (0 : Nat) [] false]) m → gB (T ++ [mk5 (2 : Nat) c.toNat (0 : Nat) [] false]) [m, i] = consF (gB T) (gB T) [m, i]) := by kernel_rfl

set_option maxHeartbeats 4000000 in
theorem kP (N M : Nat) (B : Ix → Int) (raw : Bool) (T : List Tk) (cd op : Nat) (body : List UInt8) (cu bh : Bool) (i : Nat) (c : UInt8) (hi : i < N) (hN : N ≤ 400000) (hT : T.length ≤ 400000) (hl : body.length ≤ 256) (hb : B [i] = (c.toNat : Int)) (hc : c.toNat < 256) (hcd : cd < 256) (hop : op < 256) (hM : N ≤ M) (h : c.toNat < 250)  (v : SV) (L' : HF) (next : RunsTo Tryd.prog 34 (headOf Tryd.f34 0) (envAt Tryd.f34.ntmps ([(1, .v .vl0), (2, vB raw), (7, vP 101), (8, vL 102 5 ((T ++ [mk5 2 c.toNat 0 [] false])).length), (15, vL 60 1 N), (16, vN N), (17, vN (i + 1 : Nat))])) (Sx.look (rB 60 M B ++ (clK 101 104 0 0 0 ([] : List UInt8) false bh ++ toK 102 103 (T ++ [mk5 2 c.toNat 0 [] false])))) 80 (v) (L') 420) :
    RunsTo Tryd.prog 34 (headOf Tryd.f34 0) (envAt Tryd.f34.ntmps ([(1, .v .vl0), (2, vB raw), (7, vP 101), (8, vL 102 5 (T).length), (15, vL 60 1 N), (16, vN N), (17, vN (i : Nat))])) (Sx.look (rB 60 M B ++ (clK 101 104 1 cd op body cu bh ++ toK 102 103 T))) 80 (v) (L') 420 := by
  have hw : IntKind.i64.wrap ((i : Int) + 1) = ((i + 1 : Nat) : Int) := by rw [wr64 (by omega)]; rfl
  have hb8 : IntKind.i64.wrap (c.toNat : Int) = (c.toNat : Int) := wr64 (by omega)
  have hu8 : IntKind.u8.wrap (c.toNat : Int) = (c.toNat : Int) := u8id (by omega)
  refine bcase (c := (IntKind.i64.wrap (B [(0 : Nat) + (↑i : Int).toNat]) == (242 : Int))) (fun gg0 => ?_) (fun gg0 => ?_)
  · refine runs_more baseO (More.of (kP_p0 N M B raw T cd op body cu bh i c) ⟨?oo, rfl, ?rr⟩) (by kernel_rfl) (by kernel_rfl) rfl (gtL (by decide)) (by decide) next
    case oo =>
      clear next
      refine (okc ?_ (okc ?_ (okc ?_ (okc ?_ (okc ?_ (okc ?_ (okc ?_ (okc gg0 (okc ?_ (okc ?_ okn))))))))))
      all_goals ((try simp (disch := omega) only [SS, hw, hb, hb8, hu8]); first | done | omega | assumption | (simp (disch := omega) only [SS, hw, hb, hb8, hu8] at *; first | done | omega | assumption) | (simp_all; done))
    case rr =>
      clear next
      simp (disch := omega) only [SS, hw, hb, hb8, hu8, Go.Sx.sum, List.length_append, List.length_cons, List.length_nil, Nat.zero_add]
      repeat' apply And.intro
      all_goals first | exact True.intro | with_reducible rfl | omega | exact kK_app T _ _ rfl | exact kC_app T _ _ rfl | exact kO_app T _ _ rfl | exact kL_app T _ _ rfl | exact kU_app T _ _ rfl | exact kM_app T _ _ _ (fun k hk => rfl) rfl | exact gL_cons T _ _ rfl | (intro m hm; exact ⟨gL_cons T _ _ rfl m hm, fun j hj => gB_cons T _ _ m hm j (fun j hj => by first | exact absurd hj (Nat.not_lt_zero _) | rfl | (simp [mk5]; done) | (simp [mk5, appF, subIx]; done)) hj⟩) | (intro k hk; exact app_byte1 body _ _ (by first | exact hb | (simpa [subIx] using hb) | (simp only [subIx, List.tail]; simp_all)) k hk) | (intro k hk; exact kC_app T _ _ (by first | rfl | (simp [mk5]; done) | (simp [mk5]; omega)) k hk) | (simp [subIx, hb]; done) | (simp_all [subIx]; done) | (intros; simp_all; done) | exact eq13 _ | exact (eq13 _).symm | (rw [Bool.eq_iff_iff]; simp; done) | (rw [Bool.eq_iff_iff]; simp; omega) | (simp_all; exact (eq13 _).symm) | (simp_all; exact eq13 _) | (simp_all; done)
  · refine runs_more baseO (More.of (kP_p1 N M B raw T cd op body cu bh i c) ⟨?oo, rfl, ?rr⟩) (by kernel_rfl) (by kernel_rfl) rfl (gtL (by decide)) (by decide) next
    case oo =>
      clear next
      refine (okc ?_ (okc ?_ (okc ?_ (okc ?_ (okc ?_ (okc ?_ (okc ?_ (okc gg0 (okc ?_ (okc ?_ okn))))))))))
      all_goals ((try simp (disch := omega) only [SS, hw, hb, hb8, hu8]); first | done | omega | assumption | (simp (disch := omega) only [SS, hw, hb, hb8, hu8] at *; first | done | omega | assumption) | (simp_all; done))
    case rr =>
      clear next
      simp (disch := omega) only [SS, hw, hb, hb8, hu8, Go.Sx.sum, List.length_append, List.length_cons, List.length_nil, Nat.zero_add]
      repeat' apply And.intro
      all_goals first | exact True.intro | with_reducible rfl | omega | exact kK_app T _ _ rfl | exact kC_app T _ _ rfl | exact kO_app T _ _ rfl | exact kL_app T _ _ rfl | exact kU_app T _ _ rfl | exact kM_app T _ _ _ (fun k hk => rfl) rfl | exact gL_cons T _ _ rfl | (intro m hm; exact ⟨gL_cons T _ _ rfl m hm, fun j hj => gB_cons T _ _ m hm j (fun j hj => by first | exact absurd hj (Nat.not_lt_zero _) | rfl | (simp [mk5]; done) | (simp [mk5, appF, subIx]; done)) hj⟩) | (intro k hk; exact app_byte1 body _ _ (by first | exact hb | (simpa [subIx] using hb) | (simp only [subIx, List.tail]; simp_all)) k hk) | (intro k hk; exact kC_app T _ _ (by first | rfl | (simp [mk5]; done) | (simp [mk5]; omega)) k hk) | (simp [subIx, hb]; done) | (simp_all [subIx]; done) | (intros; simp_all; done) | exact eq13 _ | exact (eq13 _).symm | (rw [Bool.eq_iff_iff]; simp; done) | (rw [Bool.eq_iff_iff]; simp; omega) | (simp_all; exact (eq13 _).symm) | (simp_all; exact eq13 _) | (simp_all; done)

theorem kV_p0 (N M : Nat) (B : Ix → Int) (raw : Bool) (T : List Tk) (cd op : Nat) (body : List UInt8) (cu bh : Bool) (i : Nat) (c : UInt8) :
    isMore (evTill Tryd.prog [] 700 (behind Tryd.f34 0) 900 34 (headOf Tryd.f34 0) (envAt Tryd.f34.ntmps ([(1, .v .vl0), (2, vB raw), (7, vP 101), (8, vL 102 5 (T).length), (15, vL 60 1 N), (16, vN N), (17, vN (i : Nat))])) (rB 60 M B ++ (clK 101 104 2 cd op body cu bh ++ toK 102 103 T)) ⟨[.s true, .s true, .s true, .s true, .f, .f, .f, .t, .f, .f, .t, .f, .t, .t, .s true, .s true], 130⟩) (moreP (headOf Tryd.f34 0) ([((102 : Nat), Rn.to (138 : Nat)), ((104 : Nat), Rn.nil (1 : Nat)), ((103 : Nat), Rn.to (137 : Nat))]) Tryd.f34.ntmps ([(1, .v .vl0), (2, vB raw), (7, vP 101), (8, vL 102 5 ((T ++ [mk5 3 cd c.toNat [] false])).length), (15, vL 60 1 N), (16, vN N), (17, vN (i + 1 : Nat))]) (clK 101 104 0 0 0 ([] : List UInt8) false bh ++ toK 102 103 (T ++ [mk5 3 cd c.toNat [] false])) 420) =
    (OkL [(decide ((↑i : Int) < (↑N : Int)), true), (decide ((0 : Int) ≤ (↑i : Int) ∧ (↑i : Int) < (↑N : Int)), true), (((0 : Nat) + (↑i : Int).toNat).blt M, true), (((0 : Nat) + (↑i : Int).toNat).blt M, true), (((0 : Nat) + T.length).ble T.length, true), (decide (((2 : Nat) * (T.length + (1 : Nat)) + (192 : Nat)) * (56 : Nat) ≤ (281474976710656 : Nat)), true)] ∧ headOf Tryd.f34 (0 : Nat) = headOf Tryd.f34 (0 : Nat) ∧ (True ∧ raw = raw ∧ (0 : Nat) = (0 : Nat) ∧ ((0 : Nat) = (0 : Nat) ∧ (T ++ [mk5 (3 : Nat) cd c.toNat [] false]).length = T.length + (1 : Nat)) ∧ ((0 : Nat) = (0 : Nat) ∧ N = N) ∧ (↑N : Int) = (↑N : Int) ∧ (↑(i + (1 : Nat)) : Int) = IntKind.i64.wrap ((↑i : Int) + (1 : Int))) ∧ (((↑(0 : Nat) : Int) = (0 : Int) ∧ (0 : Int) = (0 : Int) ∧ (↑(0 : Nat) : Int) = (0 : Int) ∧ (↑(0 : Nat) : Int) = (0 : Int) ∧ (0 : Nat) = (0 : Nat) ∧ false = false) ∧ bh = bh ∧ false = false) ∧ (0 : Nat) = (0 : Nat) ∧ ((T ++ [mk5 (3 : Nat) cd c.toNat [] false]).length = T.length + (1 : Nat) ∧ (∀ (i : Nat), i < (T ++ [mk5 (3 : Nat) cd c.toNat [] false]).length → kK (T ++ [mk5 (3 : Nat) cd c.toNat [] false]) [i] = appF T.length (0 : Nat) (kK T) (fun js => (3 : Int)) [i]) ∧ (∀ (i : Nat), i < (T ++ [mk5 (3 : Nat) cd c.toNat [] false]).length → kC (T ++ [mk5 (3 : Nat) cd c.toNat [] false]) [i] = appF T.length (0 : Nat) (kC T) (fun js => (↑cd : Int)) [i]) ∧ (∀ (i_1 : Nat), i_1 < (T ++ [mk5 (3 : Nat) cd c.toNat [] false]).length → kO (T ++ [mk5 (3 : Nat) cd c.toNat [] false]) [i_1] = appF T.length (0 : Nat) (kO T) (fun js => IntKind.i64.wrap (B [(0 : Nat) + (↑i : Int).toNat])) [i_1]) ∧ ((∀ (i : Nat), i < (T ++ [mk5 (3 : Nat) cd c.toNat [] false]).length → kM (T ++ [mk5 (3 : Nat) cd c.toNat [] false]) [i] = appF T.length (0 : Nat) (fun is => kM T is + (1 : Nat)) (fun js => (0 : Nat)) [i]) ∧ ∀ (i : Nat), i < (T ++ [mk5 (3 : Nat) cd c.toNat [] false]).length → kL (T ++ [mk5 (3 : Nat) cd c.toNat [] false]) [i] = appF T.length (0 : Nat) (kL T) (fun js => (0 : Nat)) [i]) ∧ ∀ (i : Nat), i < (T ++ [mk5 (3 : Nat) cd c.toNat [] false]).length → kU (T ++ [mk5 (3 : Nat) cd c.toNat [] false]) [i] = appF T.length (0 : Nat) (kU T) (fun js => false) [i]) ∧ (T ++ [mk5 (3 : Nat) cd c.toNat [] false]).length = T.length + (1 : Nat) ∧ ∀ (m : Nat), m < (T ++ [mk5 (3 : Nat) cd c.toNat [] false]).length → gL (T ++ [mk5 (3 : Nat) cd c.toNat [] false]) m = consN (0 : Nat) (gL T) m ∧ ∀ (i : Nat), i < gL (T ++ [mk5 (3 : Nat) cd c.toNat [] false]) m → gB (T ++ [mk5 (3 : Nat) cd c.toNat [] false]) [m, i] = consF (gB T) (gB T) [m, i]) := by kernel_rfl

set_option maxHeartbeats 4000000 in
theorem kV (N M : Nat) (B : Ix → Int) (raw : Bool) (T : List Tk) (cd op : Nat) (body : List UInt8) (cu bh : Bool) (i : Nat) (c : UInt8) (hi : i < N) (hN : N ≤ 400000) (hT : T.length ≤ 400000) (hl : body.length ≤ 256) (hb : B [i] = (c.toNat : Int)) (hc : c.toNat < 256) (hcd : cd < 256) (hop : op < 256) (hM : N ≤ M)  (v : SV) (L' : HF) (next : RunsTo Tryd.prog 34 (headOf Tryd.f34 0) (envAt Tryd.f34.ntmps ([(1, .v .vl0), (2, vB raw), (7, vP 101), (8, vL 102 5 ((T ++ [mk5 3 cd c.toNat [] false])).length), (15, vL 60 1 N), (16, vN N), (17, vN (i + 1 : Nat))])) (Sx.look (rB 60 M B ++ (clK 101 104 0 0 0 ([] : List UInt8) false bh ++ toK 102 103 (T ++ [mk5 3 cd c.toNat [] false])))) 80 (v) (L') 420) :
    RunsTo Tryd.prog 34 (headOf Tryd.f34 0) (envAt Tryd.f34.ntmps ([(1, .v .vl0), (2, vB raw), (7, vP 101), (8, vL 102 5 (T).length), (15, vL 60 1 N), (16, vN N), (17, vN (i : Nat))])) (Sx.look (rB 60 M B ++ (clK 101 104 2 cd op body cu bh ++ toK 102 103 T))) 80 (v) (L') 420 := by
  have hw : IntKind.i64.wrap ((i : Int) + 1) = ((i + 1 : Nat) : Int) := by rw [wr64 (by omega)]; rfl
  have hb8 : IntKind.i64.wrap (c.toNat : Int) = (c.toNat : Int) := wr64 (by omega)
  have hu8 : IntKind.u8.wrap (c.toNat : Int) = (c.toNat : Int) := u8id (by omega)
  refine runs_more baseO (More.of (kV_p0 N M B raw T cd op body cu bh i c) ⟨?oo, rfl, ?rr⟩) (by kernel_rfl) (by kernel_rfl) rfl (gtL (by decide)) (by decide) next
  case oo =>
    clear next
    refine (okc ?_ (okc ?_ (okc ?_ (okc ?_ (okc ?_ (okc ?_ okn))))))
    all_goals ((try simp (disch := omega) only [SS, hw, hb, hb8, hu8]); first | done | omega | assumption | (simp (disch := omega) only [SS, hw, hb, hb8, hu8] at *; first | done | omega | assumption) | (simp_all; done))
  case rr =>
    clear next
    simp (disch := omega) only [SS, hw, hb, hb8, hu8, Go.Sx.sum, List.length_append, List.length_cons, List.length_nil, Nat.zero_add]
    repeat' apply And.intro
    all_goals first | exact True.intro | with_reducible rfl | omega | exact kK_app T _ _ rfl | exact kC_app T _ _ rfl | exact kO_app T _ _ rfl | exact kL_app T _ _ rfl | exact kU_app T _ _ rfl | exact kM_app T _ _ _ (fun k hk => rfl) rfl | exact gL_cons T _ _ rfl | (intro m hm; exact ⟨gL_cons T _ _ rfl m hm, fun j hj => gB_cons T _ _ m hm j (fun j hj => by first | exact absurd hj (Nat.not_lt_zero _) | rfl | (simp [mk5]; done) | (simp [mk5, appF, subIx]; done)) hj⟩) | (intro k hk; exact app_byte1 body _ _ (by first | exact hb | (simpa [subIx] using hb) | (simp only [subIx, List.tail]; simp_all)) k hk) | (intro k hk; exact kC_app T _ _ (by first | rfl | (simp [mk5]; done) | (simp [mk5]; omega)) k hk) | (simp [subIx, hb]; done) | (simp_all [subIx]; done) | (intros; simp_all; done) | exact eq13 _ | exact (eq13 _).symm | (rw [Bool.eq_iff_iff]; simp; done) | (rw [Bool.eq_iff_iff]; simp; omega) | (simp_all; exact (eq13 _).symm) | (simp_all; exact eq13 _) | (simp_all; done)

theorem kS_p0 (N M : Nat) (B : Ix → Int) (raw : Bool) (T : List Tk) (cd op : Nat) (body : List UInt8) (cu bh : Bool) (i : Nat) (c : UInt8) :
    isMore (evTill Tryd.prog [] 700 (behind Tryd.f34 0) 900 34 (headOf Tryd.f34 0) (envAt Tryd.f34.ntmps ([(1, .v .vl0), (2, vB raw), (7, vP 101), (8, vL 102 5 (T).length), (15, vL 60 1 N), (16, vN N), (17, vN (i : Nat))])) (rB 60 M B ++ (clK 101 104 5 cd op body cu bh ++ toK 102 103 T)) ⟨[.s true, .s true, .s true, .s true, .f, .f, .f, .f, .f, .f, .t, .s false, .s true, .f, .f, .t, .f, .t, .t, .s true, .s true], 130⟩) (moreP (headOf Tryd.f34 0) ([((102 : Nat), Rn.to (138 : Nat)), ((104 : Nat), Rn.nil (1 : Nat)), ((103 : Nat), Rn.to (137 : Nat))]) Tryd.f34.ntmps ([(1, .v .vl0), (2, vB raw), (7, vP 101), (8, vL 102 5 ((T ++ [mk5 4 cd op body cu])).length), (15, vL 60 1 N), (16, vN N), (17, vN (i + 1 : Nat))]) (clK 101 104 0 0 0 ([] : List UInt8) false bh ++ toK 102 103 (T ++ [mk5 4 cd op body cu])) 420) =
    (OkL [(decide ((↑i : Int) < (↑N : Int)), true), (decide ((0 : Int) ≤ (↑i : Int) ∧ (↑i : Int) < (↑N : Int)), true), (((0 : Nat) + (↑i : Int).toNat).blt M, true), (((0 : Nat) + (↑i : Int).toNat).blt M, true), (B [(0 : Nat) + (↑i : Int).toNat] == (255 : Int), false), (B [(0 : Nat) + (↑i : Int).toNat] == (240 : Int), true), (((0 : Nat) + T.length).ble T.length, true), (decide (((2 : Nat) * (T.length + (1 : Nat)) + (192 : Nat)) * (56 : Nat) ≤ (281474976710656 : Nat)), true)] ∧ headOf Tryd.f34 (0 : Nat) = headOf Tryd.f34 (0 : Nat) ∧ (True ∧ raw = raw ∧ (0 : Nat) = (0 : Nat) ∧ ((0 : Nat) = (0 : Nat) ∧ (T ++ [mk5 (4 : Nat) cd op body cu]).length = T.length + (1 : Nat)) ∧ ((0 : Nat) = (0 : Nat) ∧ N = N) ∧ (↑N : Int) = (↑N : Int) ∧ (↑(i + (1 : Nat)) : Int) = IntKind.i64.wrap ((↑i : Int) + (1 : Int))) ∧ (((↑(0 : Nat) : Int) = (0 : Int) ∧ (0 : Int) = (0 : Int) ∧ (↑(0 : Nat) : Int) = (0 : Int) ∧ (↑(0 : Nat) : Int) = (0 : Int) ∧ (0 : Nat) = (0 : Nat) ∧ false = false) ∧ bh = bh ∧ false = false) ∧ (0 : Nat) = (0 : Nat) ∧ ((T ++ [mk5 (4 : Nat) cd op body cu]).length = T.length + (1 : Nat) ∧ (∀ (i : Nat), i < (T ++ [mk5 (4 : Nat) cd op body cu]).length → kK (T ++ [mk5 (4 : Nat) cd op body cu]) [i] = appF T.length (0 : Nat) (kK T) (fun js => (4 : Int)) [i]) ∧ (∀ (i : Nat), i < (T ++ [mk5 (4 : Nat) cd op body cu]).length → kC (T ++ [mk5 (4 : Nat) cd op body cu]) [i] = appF T.length (0 : Nat) (kC T) (fun js => (↑cd : Int)) [i]) ∧ (∀ (i : Nat), i < (T ++ [mk5 (4 : Nat) cd op body cu]).length → kO (T ++ [mk5 (4 : Nat) cd op body cu]) [i] = appF T.length (0 : Nat) (kO T) (fun js => (↑op : Int)) [i]) ∧ ((∀ (i : Nat), i < (T ++ [mk5 (4 : Nat) cd op body cu]).length → kM (T ++ [mk5 (4 : Nat) cd op body cu]) [i] = appF T.length (0 : Nat) (fun is => kM T is + (1 : Nat)) (fun js => (0 : Nat)) [i]) ∧ ∀ (i : Nat), i < (T ++ [mk5 (4 : Nat) cd op body cu]).length → kL (T ++ [mk5 (4 : Nat) cd op body cu]) [i] = appF T.length (0 : Nat) (kL T) (fun js => body.length) [i]) ∧ ∀ (i : Nat), i < (T ++ [mk5 (4 : Nat) cd op body cu]).length → kU (T ++ [mk5 (4 : Nat) cd op body cu]) [i] = appF T.length (0 : Nat) (kU T) (fun js => cu) [i]) ∧ (T ++ [mk5 (4 : Nat) cd op body cu]).length = T.length + (1 : Nat) ∧ ∀ (m : Nat), m < (T ++ [mk5 (4 : Nat) cd op body cu]).length → gL (T ++ [mk5 (4 : Nat) cd op body cu]) m = consN body.length (gL T) m ∧ ∀ (i : Nat), i < gL (T ++ [mk5 (4 : Nat) cd op body cu]) m → gB (T ++ [mk5 (4 : Nat) cd op body cu]) [m, i] = consF (fun is => (↑(body.getD (List.headD is (0 : Nat)) (0 : UInt8)).toNat : Int)) (gB T) [m, i]) := by kernel_rfl

set_option maxHeartbeats 4000000 in
theorem kS (N M : Nat) (B : Ix → Int) (raw : Bool) (T : List Tk) (cd op : Nat) (body : List UInt8) (cu bh : Bool) (i : Nat) (c : UInt8) (hi : i < N) (hN : N ≤ 400000) (hT : T.length ≤ 400000) (hl : body.length ≤ 256) (hb : B [i] = (c.toNat : Int)) (hc : c.toNat < 256) (hcd : cd < 256) (hop : op < 256) (hM : N ≤ M) (h : c.toNat = 240)  (v : SV) (L' : HF) (next : RunsTo Tryd.prog 34 (headOf Tryd.f34 0) (envAt Tryd.f34.ntmps ([(1, .v .vl0), (2, vB raw), (7, vP 101), (8, vL 102 5 ((T ++ [mk5 4 cd op body cu])).length), (15, vL 60 1 N), (16, vN N), (17, vN (i + 1 : Nat))])) (Sx.look (rB 60 M B ++ (clK 101 104 0 0 0 ([] : List UInt8) false bh ++ toK 102 103 (T ++ [mk5 4 cd op body cu])))) 80 (v) (L') 420) :
    RunsTo Tryd.prog 34 (headOf Tryd.f34 0) (envAt Tryd.f34.ntmps ([(1, .v .vl0), (2, vB raw), (7, vP 101), (8, vL 102 5 (T).length), (15, vL 60 1 N), (16, vN N), (17, vN (i : Nat))])) (Sx.look (rB 60 M B ++ (clK 101 104 5 cd op body cu bh ++ toK 102 103 T))) 80 (v) (L') 420 := by
  have hw : IntKind.i64.wrap ((i : Int) + 1) = ((i + 1 : Nat) : Int) := by rw [wr64 (by omega)]; rfl
  have hb8 : IntKind.i64.wrap (c.toNat : Int) = (c.toNat : Int) := wr64 (by omega)
  have hu8 : IntKind.u8.wrap (c.toNat : Int) = (c.toNat : Int) := u8id (by omega)
  refine runs_more baseO (More.of (kS_p0 N M B raw T cd op body cu bh i c) ⟨?oo, rfl, ?rr⟩) (by kernel_rfl) (by kernel_rfl) rfl (gtL (by decide)) (by decide) next
  case oo =>
    clear next
    refine (okc ?_ (okc ?_ (okc ?_ (okc ?_ (okc ?_ (okc ?_ (okc ?_ (okc ?_ okn))))))))
    all_goals ((try simp (disch := omega) only [SS, hw, hb, hb8, hu8]); first | done | omega | assumption | (simp (disch := omega) only [SS, hw, hb, hb8, hu8] at *; first | done | omega | assumption) | (simp_all; done))
  case rr =>
    clear next
    simp (disch := omega) only [SS, hw, hb, hb8, hu8, Go.Sx.sum, List.length_append, List.length_cons, List.length_nil, Nat.zero_add]
    repeat' apply And.intro
    all_goals first | exact True.intro | with_reducible rfl | omega | exact kK_app T _ _ rfl | exact kC_app T _ _ rfl | exact kO_app T _ _ rfl | exact kL_app T _ _ rfl | exact kU_app T _ _ rfl | exact kM_app T _ _ _ (fun k hk => rfl) rfl | exact gL_cons T _ _ rfl | (intro m hm; exact ⟨gL_cons T _ _ rfl m hm, fun j hj => gB_cons T _ _ m hm j (fun j hj => by first | exact absurd hj (Nat.not_lt_zero _) | rfl | (simp [mk5]; done) | (simp [mk5, appF, subIx]; done)) hj⟩) | (intro k hk; exact app_byte1 body _ _ (by first | exact hb | (simpa [subIx] using hb) | (simp only [subIx, List.tail]; simp_all)) k hk) | (intro k hk; exact kC_app T _ _ (by first | rfl | (simp [mk5]; done) | (simp [mk5]; omega)) k hk) | (simp [subIx, hb]; done) | (simp_all [subIx]; done) | (intros; simp_all; done) | exact eq13 _ | exact (eq13 _).symm | (rw [Bool.eq_iff_iff]; simp; done) | (rw [Bool.eq_iff_iff]; simp; omega) | (simp_all; exact (eq13 _).symm) | (simp_all; exact eq13 _) | (simp_all; done)

theorem kB_p0 (N M : Nat) (B : Ix → Int) (raw : Bool) (T : List Tk) (cd op : Nat) (body : List UInt8) (cu bh : Bool) (i : Nat) (c : UInt8) :
    isMore (evTill Tryd.prog [] 700 (behind Tryd.f34 0) 900 34 (headOf Tryd.f34 0) (envAt Tryd.f34.ntmps ([(1, .v .vl0), (2, vB raw), (7, vP 101), (8, vL 102 5 (T).length), (15, vL 60 1 N), (16, vN N), (17, vN (i : Nat))])) (rB 60 M B ++ (clK 101 104 5 cd op body cu bh ++ toK 102 103 T)) ⟨[.s true, .s true, .s true, .s true, .f, .f, .f, .f, .f, .f, .t, .s false, .s false, .f, .f, .t, .f, .t, .t, .s true, .s true], 130⟩) (moreP (headOf Tryd.f34 0) ([((102 : Nat), Rn.to (138 : Nat)), ((104 : Nat), Rn.nil (1 : Nat)), ((103 : Nat), Rn.to (137 : Nat))]) Tryd.f34.ntmps ([(1, .v .vl0), (2, vB raw), (7, vP 101), (8, vL 102 5 ((T ++ [mk5 5 c.toNat op [] false])).length), (15, vL 60 1 N), (16, vN N), (17, vN (i + 1 : Nat))]) (clK 101 104 0 0 0 ([] : List UInt8) false bh ++ toK 102 103 (T ++ [mk5 5 c.toNat op [] false])) 420) =
    (OkL [(decide ((↑i : Int) < (↑N : Int)), true), (decide ((0 : Int) ≤ (↑i : Int) ∧ (↑i : Int) < (↑N : Int)), true), (((0 : Nat) + (↑i : Int).toNat).blt M, true), (((0 : Nat) + (↑i : Int).toNat).blt M, true), (B [(0 : Nat) + (↑i : Int).toNat] == (255 : Int), false), (B [(0 : Nat) + (↑i : Int).toNat] == (240 : Int), false), (((0 : Nat) + T.length).ble T.length, true), (decide (((2 : Nat) * (T.length + (1 : Nat)) + (192 : Nat)) * (56 : Nat) ≤ (281474976710656 : Nat)), true)] ∧ headOf Tryd.f34 (0 : Nat) = headOf Tryd.f34 (0 : Nat) ∧ (True ∧ raw = raw ∧ (0 : Nat) = (0 : Nat) ∧ ((0 : Nat) = (0 : Nat) ∧ (T ++ [mk5 (5 : Nat) c.toNat op [] false]).length = T.length + (1 : Nat)) ∧ ((0 : Nat) = (0 : Nat) ∧ N = N) ∧ (↑N : Int) = (↑N : Int) ∧ (↑(i + (1 : Nat)) : Int) = IntKind.i64.wrap ((↑i : Int) + (1 : Int))) ∧ (((↑(0 : Nat) : Int) = (0 : Int) ∧ (0 : Int) = (0 : Int) ∧ (↑(0 : Nat) : Int) = (0 : Int) ∧ (↑(0 : Nat) : Int) = (0 : Int) ∧ (0 : Nat) = (0 : Nat) ∧ false = false) ∧ bh = bh ∧ false = false) ∧ (0 : Nat) = (0 : Nat) ∧ ((T ++ [mk5 (5 : Nat) c.toNat op [] false]).length = T.length + (1 : Nat) ∧ (∀ (i : Nat), i < (T ++ [mk5 (5 : Nat) c.toNat op [] false]).length → kK (T ++ [mk5 (5 : Nat) c.toNat op [] false]) [i] = appF T.length (0 : Nat) (kK T) (fun js => (5 : Int)) [i]) ∧ (∀ (i_1 : Nat), i_1 < (T ++ [mk5 (5 : Nat) c.toNat op [] false]).length → kC (T ++ [mk5 (5 : Nat) c.toNat op [] false]) [i_1] = appF T.length (0 : Nat) (kC T) (fun js => IntKind.i64.wrap (B [(0 : Nat) + (↑i : Int).toNat])) [i_1]) ∧ (∀ (i : Nat), i < (T ++ [mk5 (5 : Nat) c.toNat op [] false]).length → kO (T ++ [mk5 (5 : Nat) c.toNat op [] false]) [i] = appF T.length (0 : Nat) (kO T) (fun js => (↑op : Int)) [i]) ∧ ((∀ (i : Nat), i < (T ++ [mk5 (5 : Nat) c.toNat op [] false]).length → kM (T ++ [mk5 (5 : Nat) c.toNat op [] false]) [i] = appF T.length (0 : Nat) (fun is => kM T is + (1 : Nat)) (fun js => (0 : Nat)) [i]) ∧ ∀ (i : Nat), i < (T ++ [mk5 (5 : Nat) c.toNat op [] false]).length → kL (T ++ [mk5 (5 : Nat) c.toNat op [] false]) [i] = appF T.length (0 : Nat) (kL T) (fun js => (0 : Nat)) [i]) ∧ ∀ (i : Nat), i < (T ++ [mk5 (5 : Nat) c.toNat op [] false]).length → kU (T ++ [mk5 (5 : Nat) c.toNat op [] false]) [i] = appF T.length (0 : Nat) (kU T) (fun js => false) [i]) ∧ (T ++ [mk5 (5 : Nat) c.toNat op [] false]).length = T.length + (1 : Nat) ∧ ∀ (m : Nat), m < (T ++ [mk5 (5 : Nat) c.toNat op [] false]).length → gL (T ++ [mk5 (5 : Nat) c.toNat op [] false]) m = consN (0 : Nat) (gL T) m ∧ ∀ (i : Nat), i < gL (T ++ [mk5 (5 : Nat) c.toNat op [] false]) m → gB (T ++ [mk5 (5 : Nat) c.toNat op [] false]) [m, i] = consF (gB T) (gB T) [m, i]) := by kernel_rfl

set_option maxHeartbeats 4000000 in
theorem kB (N M : Nat) (B : Ix → Int) (raw : Bool) (T : List Tk) (cd op : Nat) (body : List UInt8) (cu bh : Bool) (i : Nat) (c : UInt8) (hi : i < N) (hN : N ≤ 400000) (hT : T.length ≤ 400000) (hl : body.length ≤ 256) (hb : B [i] = (c.toNat : Int)) (hc : c.toNat < 256) (hcd : cd < 256) (hop : op < 256) (hM : N ≤ M) (h : c.toNat ≠ 255) (h2 : c.toNat ≠ 240)  (v : SV) (L' : HF) (next : RunsTo Tryd.prog 34 (headOf Tryd.f34 0) (envAt Tryd.f34.ntmps ([(1, .v .vl0), (2, vB raw), (7, vP 101), (8, vL 102 5 ((T ++ [mk5 5 c.toNat op [] false])).length), (15, vL 60 1 N), (16, vN N), (17, vN (i + 1 : Nat))])) (Sx.look (rB 60 M B ++ (clK 101 104 0 0 0 ([] : List UInt8) false bh ++ toK 102 103 (T ++ [mk5 5 c.toNat op [] false])))) 80 (v) (L') 420) :
    RunsTo Tryd.prog 34 (headOf Tryd.f34 0) (envAt Tryd.f34.ntmps ([(1, .v .vl0), (2, vB raw), (7, vP 101), (8, vL 102 5 (T).length), (15, vL 60 1 N), (16, vN N), (17, vN (i : Nat))])) (Sx.look (rB 60 M B ++ (clK 101 104 5 cd op body cu bh ++ toK 102 103 T))) 80 (v) (L') 420 := by
  have hw : IntKind.i64.wrap ((i : Int) + 1) = ((i + 1 : Nat) : Int) := by rw [wr64 (by omega)]; rfl
  have hb8 : IntKind.i64.wrap (c.toNat : Int) = (c.toNat : Int) := wr64 (by omega)
  have hu8 : IntKind.u8.wrap (c.toNat : Int) = (c.toNat : Int) := u8id (by omega)
  refine runs_more baseO (More.of (kB_p0 N M B raw T cd op body cu bh i c) ⟨?oo, rfl, ?rr⟩) (by kernel_rfl) (by kernel_rfl) rfl (gtL (by decide)) (by decide) next
  case oo =>
    clear next
    refine (okc ?_ (okc ?_ (okc ?_ (okc ?_ (okc ?_ (okc ?_ (okc ?_ (okc ?_ okn))))))))
    all_goals ((try simp (disch := omega) only [SS, hw, hb, hb8, hu8]); first | done | omega | assumption | (simp (disch := omega) only [SS, hw, hb, hb8, hu8] at *; first | done | omega | assumption) | (simp_all; done))
  case rr =>
    clear next
    simp (disch := omega) only [SS, hw, hb, hb8, hu8, Go.Sx.sum, List.length_append, List.length_cons, List.length_nil, Nat.zero_add]
    repeat' apply And.intro
    all_goals first | exact True.intro | with_reducible rfl | omega | exact kK_app T _ _ rfl | exact kC_app T _ _ rfl | exact kO_app T _ _ rfl | exact kL_app T _ _ rfl | exact kU_app T _ _ rfl | exact kM_app T _ _ _ (fun k hk => rfl) rfl | exact gL_cons T _ _ rfl | (intro m hm; exact ⟨gL_cons T _ _ rfl m hm, fun j hj => gB_cons T _ _ m hm j (fun j hj => by first | exact absurd hj (Nat.not_lt_zero _) | rfl | (simp [mk5]; done) | (simp [mk5, appF, subIx]; done)) hj⟩) | (intro k hk; exact app_byte1 body _ _ (by first | exact hb | (simpa [subIx] using hb) | (simp only [subIx, List.tail]; simp_all)) k hk) | (intro k hk; exact kC_app T _ _ (by first | rfl | (simp [mk5]; done) | (simp [mk5]; omega)) k hk) | (simp [subIx, hb]; done) | (simp_all [subIx]; done) | (intros; simp_all; done) | exact eq13 _ | exact (eq13 _).symm | (rw [Bool.eq_iff_iff]; simp; done) | (rw [Bool.eq_iff_iff]; simp; omega) | (simp_all; exact (eq13 _).symm) | (simp_all; exact eq13 _) | (simp_all; done)

theorem kd_p0 (N M : Nat) (B : Ix → Int) (raw : Bool) (T : List Tk) (cd op : Nat) (body : List UInt8) (cu bh : Bool) (i : Nat) (c : UInt8) :
    isMore (evTill Tryd.prog [] 700 (behind Tryd.f34 0) 900 34 (headOf Tryd.f34 0) (envAt Tryd.f34.ntmps ([(1, .v .vl0), (2, vB raw), (7, vP 101), (8, vL 102 5 (T).length), (15, vL 60 1 N), (16, vN N), (17, vN (i : Nat))])) (rB 60 M B ++ (clK 101 104 0 cd op body cu bh ++ toK 102 103 T)) ⟨[.s true, .s true, .s true, .s true, .f, .f, .f, .f, .f, .f, .f, .s false, .f, .f, .f, .t, .s false, .s false, .s true, .s false, .t, .t, .s true, .s true], 130⟩) (moreP (headOf Tryd.f34 0) ([((102 : Nat), Rn.to (138 : Nat)), ((104 : Nat), Rn.nil (1 : Nat)), ((103 : Nat), Rn.to (137 : Nat))]) Tryd.f34.ntmps ([(1, .v .vl0), (2, vB raw), (7, vP 101), (8, vL 102 5 ((T ++ [mk5 1 c.toNat 0 [] false])).length), (15, vL 60 1 N), (16, vN N), (17, vN (i + 1 : Nat))]) (clK 101 104 0 0 0 ([] : List UInt8) false (!raw && c.toNat == 13) ++ toK 102 103 (T ++ [mk5 1 c.toNat 0 [] false])) 420) =
    (OkL [(decide ((↑i : Int) < (↑N : Int)), true), (decide ((0 : Int) ≤ (↑i : Int) ∧ (↑i : Int) < (↑N : Int)), true), (((0 : Nat) + (↑i : Int).toNat).blt M, true), (((0 : Nat) + (↑i : Int).toNat).blt M, true), (B [(0 : Nat) + (↑i : Int).toNat] == (255 : Int), false), (raw, false), (IntKind.u8.wrap (IntKind.i64.wrap (B [(0 : Nat) + (↑i : Int).toNat])) != (0 : Int), false), (!raw, true), (!!bh, false), (((0 : Nat) + T.length).ble T.length, true), (decide (((2 : Nat) * (T.length + (1 : Nat)) + (192 : Nat)) * (56 : Nat) ≤ (281474976710656 : Nat)), true)] ∧ headOf Tryd.f34 (0 : Nat) = headOf Tryd.f34 (0 : Nat) ∧ (True ∧ raw = raw ∧ (0 : Nat) = (0 : Nat) ∧ ((0 : Nat) = (0 : Nat) ∧ (T ++ [mk5 (1 : Nat) c.toNat (0 : Nat) [] false]).length = T.length + (1 : Nat)) ∧ ((0 : Nat) = (0 : Nat) ∧ N = N) ∧ (↑N : Int) = (↑N : Int) ∧ (↑(i + (1 : Nat)) : Int) = IntKind.i64.wrap ((↑i : Int) + (1 : Int))) ∧ (((↑(0 : Nat) : Int) = (0 : Int) ∧ (0 : Int) = (0 : Int) ∧ (↑(0 : Nat) : Int) = (0 : Int) ∧ (↑(0 : Nat) : Int) = (0 : Int) ∧ (0 : Nat) = (0 : Nat) ∧ false = false) ∧ (!raw && c.toNat == (13 : Nat)) = (IntKind.u8.wrap (IntKind.i64.wrap (B [(0 : Nat) + (↑i : Int).toNat])) == (13 : Int)) ∧ false = false) ∧ (0 : Nat) = (0 : Nat) ∧ ((T ++ [mk5 (1 : Nat) c.toNat (0 : Nat) [] false]).length = T.length + (1 : Nat) ∧ (∀ (i : Nat), i < (T ++ [mk5 (1 : Nat) c.toNat (0 : Nat) [] false]).length → kK (T ++ [mk5 (1 : Nat) c.toNat (0 : Nat) [] false]) [i] = appF T.length (0 : Nat) (kK T) (fun js => (1 : Int)) [i]) ∧ (∀ (i_1 : Nat), i_1 < (T ++ [mk5 (1 : Nat) c.toNat (0 : Nat) [] false]).length → kC (T ++ [mk5 (1 : Nat) c.toNat (0 : Nat) [] false]) [i_1] = appF T.length (0 : Nat) (kC T) (fun js => IntKind.i64.wrap (B [(0 : Nat) + (↑i : Int).toNat])) [i_1]) ∧ (∀ (i : Nat), i < (T ++ [mk5 (1 : Nat) c.toNat (0 : Nat) [] false]).length → kO (T ++ [mk5 (1 : Nat) c.toNat (0 : Nat) [] false]) [i] = appF T.length (0 : Nat) (kO T) (fun js => (0 : Int)) [i]) ∧ ((∀ (i : Nat), i < (T ++ [mk5 (1 : Nat) c.toNat (0 : Nat) [] false]).length → kM (T ++ [mk5 (1 : Nat) c.toNat (0 : Nat) [] false]) [i] = appF T.length (0 : Nat) (fun is => kM T is + (1 : Nat)) (fun js => (0 : Nat)) [i]) ∧ ∀ (i : Nat), i < (T ++ [mk5 (1 : Nat) c.toNat (0 : Nat) [] false]).length → kL (T ++ [mk5 (1 : Nat) c.toNat (0 : Nat) [] false]) [i] = appF T.length (0 : Nat) (kL T) (fun js => (0 : Nat)) [i]) ∧ ∀ (i : Nat), i < (T ++ [mk5 (1 : Nat) c.toNat (0 : Nat) [] false]).length → kU (T ++ [mk5 (1 : Nat) c.toNat (0 : Nat) [] false]) [i] = appF T.length (0 : Nat) (kU T) (fun js => false) [i]) ∧ (T ++ [mk5 (1 : Nat) c.toNat (0 : Nat) [] false]).length = T.length + (1 : Nat) ∧ ∀ (m : Nat), m < (T ++ [mk5 (1 : Nat) c.toNat (0 : Nat) [] false]).length → gL (T ++ [mk5 (1 : Nat) c.toNat (0 : Nat) [] false]) m = consN (0 : Nat) (gL T) m ∧ ∀ (i : Nat), i < gL (T ++ [mk5 (1 : Nat) c.toNat (0 : Nat) [] false]) m → gB (T ++ [mk5 (1 : Nat) c.toNat (0 : Nat) [] false]) [m, i] = consF (gB T) (gB T) [m, i]) := by kernel_rfl
theorem kd_p1 (N M : Nat) (B : Ix → Int) (raw : Bool) (T : List Tk) (cd op : Nat) (body : List UInt8) (cu bh : Bool) (i : Nat) (c : UInt8) :
    isMore (evTill Tryd.prog [] 700 (behind Tryd.f34 0) 900 34 (headOf Tryd.f34 0) (envAt Tryd.f34.ntmps ([(1, .v .vl0), (2, vB raw), (7, vP 101), (8, vL 102 5 (T).length), (15, vL 60 1 N), (16, vN N), (17, vN (i : Nat))])) (rB 60 M B ++ (clK 101 104 0 cd op body cu bh ++ toK 102 103 T)) ⟨[.s true, .s true, .s true, .s true, .f, .f, .f, .f, .f, .f, .f, .s false, .f, .f, .f, .t, .s false, .s true, .s true, .f, .t, .t, .s true, .s true], 130⟩) (moreP (headOf Tryd.f34 0) ([((102 : Nat), Rn.to (138 : Nat)), ((104 : Nat), Rn.nil (1 : Nat)), ((103 : Nat), Rn.to (137 : Nat))]) Tryd.f34.ntmps ([(1, .v .vl0), (2, vB raw), (7, vP 101), (8, vL 102 5 ((T ++ [mk5 1 c.toNat 0 [] false])).length), (15, vL 60 1 N), (16, vN N), (17, vN (i + 1 : Nat))]) (clK 101 104 0 0 0 ([] : List UInt8) false (!raw && c.toNat == 13) ++ toK 102 103 (T ++ [mk5 1 c.toNat 0 [] false])) 420) =
    (OkL [(decide ((↑i : Int) < (↑N : Int)), true), (decide ((0 : Int) ≤ (↑i : Int) ∧ (↑i : Int) < (↑N : Int)), true), (((0 : Nat) + (↑i : Int).toNat).blt M, true), (((0 : Nat) + (↑i : Int).toNat).blt M, true), (B [(0 : Nat) + (↑i : Int).toNat] == (255 : Int), false), (raw, false), (IntKind.u8.wrap (IntKind.i64.wrap (B [(0 : Nat) + (↑i : Int).toNat])) != (0 : Int), true), (!raw, true), (((0 : Nat) + T.length).ble T.length, true), (decide (((2 : Nat) * (T.length + (1 : Nat)) + (192 : Nat)) * (56 : Nat) ≤ (281474976710656 : Nat)), true)] ∧ headOf Tryd.f34 (0 : Nat) = headOf Tryd.f34 (0 : Nat) ∧ (True ∧ raw = raw ∧ (0 : Nat) = (0 : Nat) ∧ ((0 : Nat) = (0 : Nat) ∧ (T ++ [mk5 (1 : Nat) c.toNat (0 : Nat) [] false]).length = T.length + (1 : Nat)) ∧ ((0 : Nat) = (0 : Nat) ∧ N = N) ∧ (↑N : Int) = (↑N : Int) ∧ (↑(i + (1 : Nat)) : Int) = IntKind.i64.wrap ((↑i : Int) + (1 : Int))) ∧ (((↑(0 : Nat) : Int) = (0 : Int) ∧ (0 : Int) = (0 : Int) ∧ (↑(0 : Nat) : Int) = (0 : Int) ∧ (↑(0 : Nat) : Int) = (0 : Int) ∧ (0 : Nat) = (0 : Nat) ∧ false = false) ∧ (!raw && c.toNat == (13 : Nat)) = (IntKind.u8.wrap (IntKind.i64.wrap (B [(0 : Nat) + (↑i : Int).toNat])) == (13 : Int)) ∧ false = false) ∧ (0 : Nat) = (0 : Nat) ∧ ((T ++ [mk5 (1 : Nat) c.toNat (0 : Nat) [] false]).length = T.length + (1 : Nat) ∧ (∀ (i : Nat), i < (T ++ [mk5 (1 : Nat) c.toNat (0 : Nat) [] false]).length → kK (T ++ [mk5 (1 : Nat) c.toNat (0 : Nat) [] false]) [i] = appF T.length (0 : Nat) (kK T) (fun js => (1 : Int)) [i]) ∧ (∀ (i_1 : Nat), i_1 < (T ++ [mk5 (1 : Nat) c.toNat (0 : Nat) [] false]).length → kC (T ++ [mk5 (1 : Nat) c.toNat (0 : Nat) [] false]) [i_1] = appF T.length (0 : Nat) (kC T) (fun js => IntKind.i64.wrap (B [(0 : Nat) + (↑i : Int).toNat])) [i_1]) ∧ (∀ (i : Nat), i < (T ++ [mk5 (1 : Nat) c.toNat (0 : Nat) [] false]).length → kO (T ++ [mk5 (1 : Nat) c.toNat (0 : Nat) [] false]) [i] = appF T.length (0 : Nat) (kO T) (fun js => (0 : Int)) [i]) ∧ ((∀ (i : Nat), i < (T ++ [mk5 (1 : Nat) c.toNat (0 : Nat) [] false]).length → kM (T ++ [mk5 (1 : Nat) c.toNat (0 : Nat) [] false]) [i] = appF T.length (0 : Nat) (fun is => kM T is + (1 : Nat)) (fun js => (0 : Nat)) [i]) ∧ ∀ (i : Nat), i < (T ++ [mk5 (1 : Nat) c.toNat (0 : Nat) [] false]).length → kL (T ++ [mk5 (1 : Nat) c.toNat (0 : Nat) [] false]) [i] = appF T.length (0 : Nat) (kL T) (fun js => (0 : Nat)) [i]) ∧ ∀ (i : Nat), i < (T ++ [mk5 (1 : Nat) c.toNat (0 : Nat) [] false]).length → kU (T ++ [mk5 (1 : Nat) c.toNat (0 : Nat) [] false]) [i] = appF T.length (0 : Nat) (kU T) (fun js => false) [i]) ∧ (T ++ [mk5 (1 : Nat) c.toNat (0 : Nat) [] false]).length = T.length + (1 : Nat) ∧ ∀ (m : Nat), m < (T ++ [mk5 (1 : Nat) c.toNat (0 : Nat) [] false]).length → gL (T ++ [mk5 (1 : Nat) c.toNat (0 : Nat) [] false]) m = consN (0 : Nat) (gL T) m ∧ ∀ (i : Nat), i < gL (T ++ [mk5 (1 : Nat) c.toNat (0 : Nat) [] false]) m → gB (T ++ [mk5 (1 : Nat) c.toNat (0 : Nat) [] false]) [m, i] = consF (gB T) (gB T) [m, i]) := by kernel_rfl
theorem kd_p2 (N M : Nat) (B : Ix → Int) (raw : Bool) (T : List Tk) (cd op : Nat) (body : List UInt8) (cu bh : Bool) (i : Nat) (c : UInt8) :
    isMore (evTill Tryd.prog [] 700 (behind Tryd.f34 0) 900 34 (headOf Tryd.f34 0) (envAt Tryd.f34.ntmps ([(1, .v .vl0), (2, vB raw), (7, vP 101), (8, vL 102 5 (T).length), (15, vL 60 1 N), (16, vN N), (17, vN (i : Nat))])) (rB 60 M B ++ (clK 101 104 0 cd op body cu bh ++ toK 102 103 T)) ⟨[.s true, .s true, .s true, .s true, .f, .f, .f, .f, .f, .f, .f, .s false, .f, .f, .f, .t, .s true, .s false, .f, .t, .t, .s true, .s true], 130⟩) (moreP (headOf Tryd.f34 0) ([((102 : Nat), Rn.to (138 : Nat)), ((104 : Nat), Rn.nil (1 : Nat)), ((103 : Nat), Rn.to (137 : Nat))]) Tryd.f34.ntmps ([(1, .v .vl0), (2, vB raw), (7, vP 101), (8, vL 102 5 ((T ++ [mk5 1 c.toNat 0 [] false])).length), (15, vL 60 1 N), (16, vN N), (17, vN (i + 1 : Nat))]) (clK 101 104 0 0 0 ([] : List UInt8) false (!raw && c.toNat == 13) ++ toK 102 103 (T ++ [mk5 1 c.toNat 0 [] false])) 420) =
    (OkL [(decide ((↑i : Int) < (↑N : Int)), true), (decide ((0 : Int) ≤ (↑i : Int) ∧ (↑i : Int) < (↑N : Int)), true), (((0 : Nat) + (↑i : Int).toNat).blt M, true), (((0 : Nat) + (↑i : Int).toNat).blt M, true), (B [(0 : Nat) + (↑i : Int).toNat] == (255 : Int), false), (raw, true), (!raw, false), (((0 : Nat) + T.length).ble T.length, true), (decide (((2 : Nat) * (T.length + (1 : Nat)) + (192 : Nat)) * (56 : Nat) ≤ (281474976710656 : Nat)), true)] ∧ headOf Tryd.f34 (0 : Nat) = headOf Tryd.f34 (0 : Nat) ∧ (True ∧ raw = raw ∧ (0 : Nat) = (0 : Nat) ∧ ((0 : Nat) = (0 : Nat) ∧ (T ++ [mk5 (1 : Nat) c.toNat (0 : Nat) [] false]).length = T.length + (1 : Nat)) ∧ ((0 : Nat) = (0 : Nat) ∧ N = N) ∧ (↑N : Int) = (↑N : Int) ∧ (↑(i + (1 : Nat)) : Int) = IntKind.i64.wrap ((↑i : Int) + (1 : Int))) ∧ (((↑(0 : Nat) : Int) = (0 : Int) ∧ (0 : Int) = (0 : Int) ∧ (↑(0 : Nat) : Int) = (0 : Int) ∧ (↑(0 : Nat) : Int) = (0 : Int) ∧ (0 : Nat) = (0 : Nat) ∧ false = false) ∧ (!raw && c.toNat == (13 : Nat)) = false ∧ false = false) ∧ (0 : Nat) = (0 : Nat) ∧ ((T ++ [mk5 (1 : Nat) c.toNat (0 : Nat) [] false]).length = T.length + (1 : Nat) ∧ (∀ (i : Nat), i < (T ++ [mk5 (1 : Nat) c.toNat (0 : Nat) [] false]).length → kK (T ++ [mk5 (1 : Nat) c.toNat (0 : Nat) [] false]) [i] = appF T.length (0 : Nat) (kK T) (fun js => (1 : Int)) [i]) ∧ (∀ (i_1 : Nat), i_1 < (T ++ [mk5 (1 : Nat) c.toNat (0 : Nat) [] false]).length → kC (T ++ [mk5 (1 : Nat) c.toNat (0 : Nat) [] false]) [i_1] = appF T.length (0 : Nat) (kC T) (fun js => IntKind.i64.wrap (B [(0 : Nat) + (↑i : Int).toNat])) [i_1]) ∧ (∀ (i : Nat), i < (T ++ [mk5 (1 : Nat) c.toNat (0 : Nat) [] false]).length → kO (T ++ [mk5 (1 : Nat) c.toNat (0 : Nat) [] false]) [i] = appF T.length (0 : Nat) (kO T) (fun js => (0 : Int)) [i]) ∧ ((∀ (i : Nat), i < (T ++ [mk5 (1 : Nat) c.toNat (0 : Nat) [] false]).length → kM (T ++ [mk5 (1 : Nat) c.toNat (0 : Nat) [] false]) [i] = appF T.length (0 : Nat) (fun is => kM T is + (1 : Nat)) (fun js => (0 : Nat)) [i]) ∧ ∀ (i : Nat), i < (T ++ [mk5 (1 : Nat) c.toNat (0 : Nat) [] false]).length → kL (T ++ [mk5 (1 : Nat) c.toNat (0 : Nat) [] false]) [i] = appF T.length (0 : Nat) (kL T) (fun js => (0 : Nat)) [i]) ∧ ∀ (i : Nat), i < (T ++ [mk5 (1 : Nat) c.toNat (0 : Nat) [] false]).length → kU (T ++ [mk5 (1 : Nat) c.toNat (0 : Nat) [] false]) [i] = appF T.length (0 : Nat) (kU T) (fun js => false) [i]) ∧ (T ++ [mk5 (1 : Nat) c.toNat (0 : Nat) [] false]).length = T.length + (1 : Nat) ∧ ∀ (m : Nat), m < (T ++ [mk5 (1 : Nat) c.toNat (0 : Nat) [] false]).length → gL (T ++ [mk5 (1 : Nat) c.toNat (0 : Nat) [] false]) m = consN (0 : Nat) (gL T) m ∧ ∀ (i : Nat), i < gL (T ++ [mk5 (1 : Nat) c.toNat (0 : Nat) [] false]) m → gB (T ++ [mk5 (1 : Nat) c.toNat (0 : Nat) [] false]) [m, i] = consF (gB T) (gB T) [m, i]) := by kernel_rfl

set_option maxHeartbeats 4000000 in
theorem kd (N M : Nat) (B : Ix → Int) (raw : Bool) (T : List Tk) (cd op : Nat) (body : List UInt8) (cu bh : Bool) (i : Nat) (c : UInt8) (hi : i < N) (hN : N ≤ 400000) (hT : T.length ≤ 400000) (hl : body.length ≤ 256) (hb : B [i] = (c.toNat : Int)) (hc : c.toNat < 256) (hcd : cd < 256) (hop : op < 256) (hM : N ≤ M) (h : c.toNat ≠ 255) (hs : (raw || (c.toNat != 0 || !bh)) = true)  (v : SV) (L' : HF) (next : RunsTo Tryd.prog 34 (headOf Tryd.f34 0) (envAt Tryd.f34.ntmps ([(1, .v .vl0), (2, vB raw), (7, vP 101), (8, vL 102 5 ((T ++ [mk5 1 c.toNat 0 [] false])).length), (15, vL 60 1 N), (16, vN N), (17, vN (i + 1 : Nat))])) (Sx.look (rB 60 M B ++ (clK 101 104 0 0 0 ([] : List UInt8) false (!raw && c.toNat == 13) ++ toK 102 103 (T ++ [mk5 1 c.toNat 0 [] false])))) 80 (v) (L') 420) :
    RunsTo Tryd.prog 34 (headOf Tryd.f34 0) (envAt Tryd.f34.ntmps ([(1, .v .vl0), (2, vB raw), (7, vP 101), (8, vL 102 5 (T).length), (15, vL 60 1 N), (16, vN N), (17, vN (i : Nat))])) (Sx.look (rB 60 M B ++ (clK 101 104 0 cd op body cu bh ++ toK 102 103 T))) 80 (v) (L') 420 := by
  have hw : IntKind.i64.wrap ((i : Int) + 1) = ((i + 1 : Nat) : Int) := by rw [wr64 (by omega)]; rfl
  have hb8 : IntKind.i64.wrap (c.toNat : Int) = (c.toNat : Int) := wr64 (by omega)
  have hu8 : IntKind.u8.wrap (c.toNat : Int) = (c.toNat : Int) := u8id (by omega)
  refine bcase (c := (raw)) (fun gg0 => ?_) (fun gg0 => ?_)
  · refine bcase (c := (IntKind.u8.wrap (IntKind.i64.wrap (B [(0 : Nat) + (↑i : Int).toNat])) != (0 : Int))) (fun gg1 => ?_) (fun gg1 => ?_)
    · refine runs_more baseO (More.of (kd_p0 N M B raw T cd op body cu bh i c) ⟨?oo, rfl, ?rr⟩) (by kernel_rfl) (by kernel_rfl) rfl (gtL (by decide)) (by decide) next
      case oo =>
        clear next
        refine (okc ?_ (okc ?_ (okc ?_ (okc ?_ (okc ?_ (okc gg0 (okc gg1 (okc ?_ (okc ?_ (okc ?_ (okc ?_ okn)))))))))))
        all_goals ((try simp (disch := omega) only [SS, hw, hb, hb8, hu8]); first | done | omega | assumption | (simp (disch := omega) only [SS, hw, hb, hb8, hu8] at *; first | done | omega | assumption) | (simp_all; done))
      case rr =>
        clear next
        simp (disch := omega) only [SS, hw, hb, hb8, hu8, Go.Sx.sum, List.length_append, List.length_cons, List.length_nil, Nat.zero_add]
        repeat' apply And.intro
        all_goals first | exact True.intro | with_reducible rfl | omega | exact kK_app T _ _ rfl | exact kC_app T _ _ rfl | exact kO_app T _ _ rfl | exact kL_app T _ _ rfl | exact kU_app T _ _ rfl | exact kM_app T _ _ _ (fun k hk => rfl) rfl | exact gL_cons T _ _ rfl | (intro m hm; exact ⟨gL_cons T _ _ rfl m hm, fun j hj => gB_cons T _ _ m hm j (fun j hj => by first | exact absurd hj (Nat.not_lt_zero _) | rfl | (simp [mk5]; done) | (simp [mk5, appF, subIx]; done)) hj⟩) | (intro k hk; exact app_byte1 body _ _ (by first | exact hb | (simpa [subIx] using hb) | (simp only [subIx, List.tail]; simp_all)) k hk) | (intro k hk; exact kC_app T _ _ (by first | rfl | (simp [mk5]; done) | (simp [mk5]; omega)) k hk) | (simp [subIx, hb]; done) | (simp_all [subIx]; done) | (intros; simp_all; done) | exact eq13 _ | exact (eq13 _).symm | (rw [Bool.eq_iff_iff]; simp; done) | (rw [Bool.eq_iff_iff]; simp; omega) | (simp_all; exact (eq13 _).symm) | (simp_all; exact eq13 _) | (simp_all; done)
    · refine runs_more baseO (More.of (kd_p1 N M B raw T cd op body cu bh i c) ⟨?oo, rfl, ?rr⟩) (by kernel_rfl) (by kernel_rfl) rfl (gtL (by decide)) (by decide) next
      case oo =>
        clear next
        refine (okc ?_ (okc ?_ (okc ?_ (okc ?_ (okc ?_ (okc gg0 (okc gg1 (okc ?_ (okc ?_ (okc ?_ okn))))))))))
        all_goals ((try simp (disch := omega) only [SS, hw, hb, hb8, hu8]); first | done | omega | assumption | (simp (disch := omega) only [SS, hw, hb, hb8, hu8] at *; first | done | omega | assumption) | (simp_all; done))
      case rr =>
        clear next
        simp (disch := omega) only [SS, hw, hb, hb8, hu8, Go.Sx.sum, List.length_append, List.length_cons, List.length_nil, Nat.zero_add]
        repeat' apply And.intro
        all_goals first | exact True.intro | with_reducible rfl | omega | exact kK_app T _ _ rfl | exact kC_app T _ _ rfl | exact kO_app T _ _ rfl | exact kL_app T _ _ rfl | exact kU_app T _ _ rfl | exact kM_app T _ _ _ (fun k hk => rfl) rfl | exact gL_cons T _ _ rfl | (intro m hm; exact ⟨gL_cons T _ _ rfl m hm, fun j hj => gB_cons T _ _ m hm j (fun j hj => by first | exact absurd hj (Nat.not_lt_zero _) | rfl | (simp [mk5]; done) | (simp [mk5, appF, subIx]; done)) hj⟩) | (intro k hk; exact app_byte1 body _ _ (by first | exact hb | (simpa [subIx] using hb) | (simp only [subIx, List.tail]; simp_all)) k hk) | (intro k hk; exact kC_app T _ _ (by first | rfl | (simp [mk5]; done) | (simp [mk5]; omega)) k hk) | (simp [subIx, hb]; done) | (simp_all [subIx]; done) | (intros; simp_all; done) | exact eq13 _ | exact (eq13 _).symm | (rw [Bool.eq_iff_iff]; simp; done) | (rw [Bool.eq_iff_iff]; simp; omega) | (simp_all; exact (eq13 _).symm) | (simp_all; exact eq13 _) | (simp_all; done)
  · refine runs_more baseO (More.of (kd_p2 N M B raw T cd op body cu bh i c) ⟨?oo, rfl, ?rr⟩) (by kernel_rfl) (by kernel_rfl) rfl (gtL (by decide)) (by decide) next
    case oo =>
      clear next
      refine (okc ?_ (okc ?_ (okc ?_ (okc ?_ (okc ?_ (okc gg0 (okc ?_ (okc ?_ (okc ?_ okn)))))))))
      all_goals ((try simp (disch := omega) only [SS, hw, hb, hb8, hu8]); first | done | omega | assumption | (simp (disch := omega) only [SS, hw, hb, hb8, hu8] at *; first | done | omega | assumption) | (simp_all; done))
    case rr =>
      clear next
      simp (disch := omega) only [SS, hw, hb, hb8, hu8, Go.Sx.sum, List.length_append, List.length_cons, List.length_nil, Nat.zero_add]
      repeat' apply And.intro
      all_goals first | exact True.intro | with_reducible rfl | omega | exact kK_app T _ _ rfl | exact kC_app T _ _ rfl | exact kO_app T _ _ rfl | exact kL_app T _ _ rfl | exact kU_app T _ _ rfl | exact kM_app T _ _ _ (fun k hk => rfl) rfl | exact gL_cons T _ _ rfl | (intro m hm; exact ⟨gL_cons T _ _ rfl m hm, fun j hj => gB_cons T _ _ m hm j (fun j hj => by first | exact absurd hj (Nat.not_lt_zero _) | rfl | (simp [mk5]; done) | (simp [mk5, appF, subIx]; done)) hj⟩) | (intro k hk; exact app_byte1 body _ _ (by first | exact hb | (simpa [subIx] using hb) | (simp only [subIx, List.tail]; simp_all)) k hk) | (intro k hk; exact kC_app T _ _ (by first | rfl | (simp [mk5]; done) | (simp [mk5]; omega)) k hk) | (simp [subIx, hb]; done) | (simp_all [subIx]; done) | (intros; simp_all; done) | exact eq13 _ | exact (eq13 _).symm | (rw [Bool.eq_iff_iff]; simp; done) | (rw [Bool.eq_iff_iff]; simp; omega) | (simp_all; exact (eq13 _).symm) | (simp_all; exact eq13 _) | (simp_all; done)

theorem kg_p0 (N M : Nat) (B : Ix → Int) (raw : Bool) (T : List Tk) (cd op : Nat) (body : List UInt8) (cu bh : Bool) (i : Nat) (c : UInt8) :
    isMore (evTill Tryd.prog [] 700 (behind Tryd.f34 0) 900 34 (headOf Tryd.f34 0) (envAt Tryd.f34.ntmps ([(1, .v .vl0), (2, vB raw), (7, vP 101), (8, vL 102 5 (T).length), (15, vL 60 1 N), (16, vN N), (17, vN (i : Nat))])) (rB 60 M B ++ (clK 101 104 0 cd op body cu bh ++ toK 102 103 T)) ⟨[.s true, .s true, .s true, .s true, .f, .f, .f, .f, .f, .f, .f, .s false, .f, .f, .f, .t, .s false, .s false, .s true, .s true, .f], 130⟩) (moreP (headOf Tryd.f34 0) ([((104 : Nat), Rn.nil (1 : Nat))]) Tryd.f34.ntmps ([(1, .v .vl0), (2, vB raw), (7, vP 101), (8, vL 102 5 (T).length), (15, vL 60 1 N), (16, vN N), (17, vN (i + 1 : Nat))]) (clK 101 104 0 0 0 ([] : List UInt8) false false ++ toK 102 103 T) 420) =
    (OkL [(decide ((↑i : Int) < (↑N : Int)), true), (decide ((0 : Int) ≤ (↑i : Int) ∧ (↑i : Int) < (↑N : Int)), true), (((0 : Nat) + (↑i : Int).toNat).blt M, true), (((0 : Nat) + (↑i : Int).toNat).blt M, true), (B [(0 : Nat) + (↑i : Int).toNat] == (255 : Int), false), (raw, false), (IntKind.u8.wrap (IntKind.i64.wrap (B [(0 : Nat) + (↑i : Int).toNat])) != (0 : Int), false), (!raw, true), (!!bh, true)] ∧ headOf Tryd.f34 (0 : Nat) = headOf Tryd.f34 (0 : Nat) ∧ (True ∧ raw = raw ∧ (0 : Nat) = (0 : Nat) ∧ ((0 : Nat) = (0 : Nat) ∧ T.length = T.length) ∧ ((0 : Nat) = (0 : Nat) ∧ N = N) ∧ (↑N : Int) = (↑N : Int) ∧ (↑(i + (1 : Nat)) : Int) = IntKind.i64.wrap ((↑i : Int) + (1 : Int))) ∧ (((↑(0 : Nat) : Int) = (0 : Int) ∧ (0 : Int) = (0 : Int) ∧ (↑(0 : Nat) : Int) = (0 : Int) ∧ (↑(0 : Nat) : Int) = (0 : Int) ∧ (0 : Nat) = (0 : Nat) ∧ false = false) ∧ false = (IntKind.u8.wrap (IntKind.i64.wrap (B [(0 : Nat) + (↑i : Int).toNat])) == (13 : Int)) ∧ false = false) ∧ (0 : Nat) = (0 : Nat) ∧ (T.length = T.length ∧ (∀ (i : Nat), i < T.length → kK T [i] = kK T [i]) ∧ (∀ (i : Nat), i < T.length → kC T [i] = kC T [i]) ∧ (∀ (i : Nat), i < T.length → kO T [i] = kO T [i]) ∧ ((∀ (i : Nat), i < T.length → kM T [i] = kM T [i]) ∧ ∀ (i : Nat), i < T.length → kL T [i] = kL T [i]) ∧ ∀ (i : Nat), i < T.length → kU T [i] = kU T [i]) ∧ T.length = T.length ∧ ∀ (m : Nat), m < T.length → gL T m = gL T m ∧ ∀ (i : Nat), i < gL T m → gB T [m, i] = gB T [m, i]) := by kernel_rfl

set_option maxHeartbeats 4000000 in
theorem kg (N M : Nat) (B : Ix → Int) (raw : Bool) (T : List Tk) (cd op : Nat) (body : List UInt8) (cu bh : Bool) (i : Nat) (c : UInt8) (hi : i < N) (hN : N ≤ 400000) (hT : T.length ≤ 400000) (hl : body.length ≤ 256) (hb : B [i] = (c.toNat : Int)) (hc : c.toNat < 256) (hcd : cd < 256) (hop : op < 256) (hM : N ≤ M) (h : c.toNat = 0) (hr : raw = false) (hbh : bh = true)  (v : SV) (L' : HF) (next : RunsTo Tryd.prog 34 (headOf Tryd.f34 0) (envAt Tryd.f34.ntmps ([(1, .v .vl0), (2, vB raw), (7, vP 101), (8, vL 102 5 (T).length), (15, vL 60 1 N), (16, vN N), (17, vN (i + 1 : Nat))])) (Sx.look (rB 60 M B ++ (clK 101 104 0 0 0 ([] : List UInt8) false false ++ toK 102 103 T))) 80 (v) (L') 420) :
    RunsTo Tryd.prog 34 (headOf Tryd.f34 0) (envAt Tryd.f34.ntmps ([(1, .v .vl0), (2, vB raw), (7, vP 101), (8, vL 102 5 (T).length), (15, vL 60 1 N), (16, vN N), (17, vN (i : Nat))])) (Sx.look (rB 60 M B ++ (clK 101 104 0 cd op body cu bh ++ toK 102 103 T))) 80 (v) (L') 420 := by
  have hw : IntKind.i64.wrap ((i : Int) + 1) = ((i + 1 : Nat) : Int) := by rw [wr64 (by omega)]; rfl
  have hb8 : IntKind.i64.wrap (c.toNat : Int) = (c.toNat : Int) := wr64 (by omega)
  have hu8 : IntKind.u8.wrap (c.toNat : Int) = (c.toNat : Int) := u8id (by omega)
  refine runs_more baseO (More.of (kg_p0 N M B raw T cd op body cu bh i c) ⟨?oo, rfl, ?rr⟩) (by kernel_rfl) (by kernel_rfl) rfl (gtL (by decide)) (by decide) next
  case oo =>
    clear next
    refine (okc ?_ (okc ?_ (okc ?_ (okc ?_ (okc ?_ (okc ?_ (okc ?_ (okc ?_ (okc ?_ okn)))))))))
    all_goals ((try simp (disch := omega) only [SS, hw, hb, hb8, hu8]); first | done | omega | assumption | (simp (disch := omega) only [SS, hw, hb, hb8, hu8] at *; first | done | omega | assumption) | (simp_all; done))
  case rr =>
    clear next
    simp (disch := omega) only [SS, hw, hb, hb8, hu8, Go.Sx.sum, List.length_append, List.length_cons, List.length_nil, Nat.zero_add]
    repeat' apply And.intro
    all_goals first | exact True.intro | with_reducible rfl | omega | exact kK_app T _ _ rfl | exact kC_app T _ _ rfl | exact kO_app T _ _ rfl | exact kL_app T _ _ rfl | exact kU_app T _ _ rfl | exact kM_app T _ _ _ (fun k hk => rfl) rfl | exact gL_cons T _ _ rfl | (intro m hm; exact ⟨gL_cons T _ _ rfl m hm, fun j hj => gB_cons T _ _ m hm j (fun j hj => by first | exact absurd hj (Nat.not_lt_zero _) | rfl | (simp [mk5]; done) | (simp [mk5, appF, subIx]; done)) hj⟩) | (intro k hk; exact app_byte1 body _ _ (by first | exact hb | (simpa [subIx] using hb) | (simp only [subIx, List.tail]; simp_all)) k hk) | (intro k hk; exact kC_app T _ _ (by first | rfl | (simp [mk5]; done) | (simp [mk5]; omega)) k hk) | (simp [subIx, hb]; done) | (simp_all [subIx]; done) | (intros; simp_all; done) | exact eq13 _ | exact (eq13 _).symm | (rw [Bool.eq_iff_iff]; simp; done) | (rw [Bool.eq_iff_iff]; simp; omega) | (simp_all; exact (eq13 _).symm) | (simp_all; exact eq13 _) | (simp_all; done)

theorem kq_p0 (N M : Nat) (B : Ix → Int) (raw : Bool) (T : List Tk) (cd op : Nat) (body : List UInt8) (cu bh : Bool) (i : Nat) (c : UInt8) :
    isMore (evTill Tryd.prog [] 700 (behind Tryd.f34 0) 900 34 (headOf Tryd.f34 0) (envAt Tryd.f34.ntmps ([(1, .v .vl0), (2, vB raw), (7, vP 101), (8, vL 102 5 (T).length), (15, vL 60 1 N), (16, vN N), (17, vN (i : Nat))])) (rB 60 M B ++ (clK 101 104 1 cd op body cu bh ++ toK 102 103 T)) ⟨[.s true, .s true, .s true, .s true, .f, .f, .t, .s true, .f, .f, .f, .t, .s false, .t, .s true, .f, .t, .t, .s true, .s true], 130⟩) (moreP (headOf Tryd.f34 0) ([((102 : Nat), Rn.to (138 : Nat)), ((104 : Nat), Rn.nil (1 : Nat)), ((103 : Nat), Rn.to (137 : Nat))]) Tryd.f34.ntmps ([(1, .v .vl0), (2, vB raw), (7, vP 101), (8, vL 102 5 ((T ++ [mk5 1 255 0 [] false])).length), (15, vL 60 1 N), (16, vN N), (17, vN (i + 1 : Nat))]) (clK 101 104 0 0 0 ([] : List UInt8) false false ++ toK 102 103 (T ++ [mk5 1 255 0 [] false])) 420) =
    (OkL [(decide ((↑i : Int) < (↑N : Int)), true), (decide ((0 : Int) ≤ (↑i : Int) ∧ (↑i : Int) < (↑N : Int)), true), (((0 : Nat) + (↑i : Int).toNat).blt M, true), (((0 : Nat) + (↑i : Int).toNat).blt M, true), (B [(0 : Nat) + (↑i : Int).toNat] == (255 : Int), true), (raw, false), (!raw, true), (((0 : Nat) + T.length).ble T.length, true), (decide (((2 : Nat) * (T.length + (1 : Nat)) + (192 : Nat)) * (56 : Nat) ≤ (281474976710656 : Nat)), true)] ∧ headOf Tryd.f34 (0 : Nat) = headOf Tryd.f34 (0 : Nat) ∧ (True ∧ raw = raw ∧ (0 : Nat) = (0 : Nat) ∧ ((0 : Nat) = (0 : Nat) ∧ (T ++ [mk5 (1 : Nat) (255 : Nat) (0 : Nat) [] false]).length = T.length + (1 : Nat)) ∧ ((0 : Nat) = (0 : Nat) ∧ N = N) ∧ (↑N : Int) = (↑N : Int) ∧ (↑(i + (1 : Nat)) : Int) = IntKind.i64.wrap ((↑i : Int) + (1 : Int))) ∧ (((↑(0 : Nat) : Int) = (0 : Int) ∧ (0 : Int) = (0 : Int) ∧ (↑(0 : Nat) : Int) = (0 : Int) ∧ (↑(0 : Nat) : Int) = (0 : Int) ∧ (0 : Nat) = (0 : Nat) ∧ false = false) ∧ false = false ∧ false = false) ∧ (0 : Nat) = (0 : Nat) ∧ ((T ++ [mk5 (1 : Nat) (255 : Nat) (0 : Nat) [] false]).length = T.length + (1 : Nat) ∧ (∀ (i : Nat), i < (T ++ [mk5 (1 : Nat) (255 : Nat) (0 : Nat) [] false]).length → kK (T ++ [mk5 (1 : Nat) (255 : Nat) (0 : Nat) [] false]) [i] = appF T.length (0 : Nat) (kK T) (fun js => (1 : Int)) [i]) ∧ (∀ (i : Nat), i < (T ++ [mk5 (1 : Nat) (255 : Nat) (0 : Nat) [] false]).length → kC (T ++ [mk5 (1 : Nat) (255 : Nat) (0 : Nat) [] false]) [i] = appF T.length (0 : Nat) (kC T) (fun js => (255 : Int)) [i]) ∧ (∀ (i : Nat), i < (T ++ [mk5 (1 : Nat) (255 : Nat) (0 : Nat) [] false]).length → kO (T ++ [mk5 (1 : Nat) (255 : Nat) (0 : Nat) [] false]) [i] = appF T.length (0 : Nat) (kO T) (fun js => (0 : Int)) [i]) ∧ ((∀ (i : Nat), i < (T ++ [mk5 (1 : Nat) (255 : Nat) (0 : Nat) [] false]).length → kM (T ++ [mk5 (1 : Nat) (255 : Nat) (0 : Nat) [] false]) [i] = appF T.length (0 : Nat) (fun is => kM T is + (1 : Nat)) (fun js => (0 : Nat)) [i]) ∧ ∀ (i : Nat), i < (T ++ [mk5 (1 : Nat) (255 : Nat) (0 : Nat) [] false]).length → kL (T ++ [mk5 (1 : Nat) (255 : Nat) (0 : Nat) [] false]) [i] = appF T.length (0 : Nat) (kL T) (fun js => (0 : Nat)) [i]) ∧ ∀ (i : Nat), i < (T ++ [mk5 (1 : Nat) (255 : Nat) (0 : Nat) [] false]).length → kU (T ++ [mk5 (1 : Nat) (255 : Nat) (0 : Nat) [] false]) [i] = appF T.length (0 : Nat) (kU T) (fun js => false) [i]) ∧ (T ++ [mk5 (1 : Nat) (255 : Nat) (0 : Nat) [] false]).length = T.length + (1 : Nat) ∧ ∀ (m : Nat), m < (T ++ [mk5 (1 : Nat) (255 : Nat) (0 : Nat) [] false]).length → gL (T ++ [mk5 (1 : Nat) (255 : Nat) (0 : Nat) [] false]) m = consN (0 : Nat) (gL T) m ∧ ∀ (i : Nat), i < gL (T ++ [mk5 (1 : Nat) (255 : Nat) (0 : Nat) [] false]) m → gB (T ++ [mk5 (1 : Nat) (255 : Nat) (0 : Nat) [] false]) [m, i] = consF (gB T) (gB T) [m, i]) := by kernel_rfl
theorem kq_p1 (N M : Nat) (B : Ix → Int) (raw : Bool) (T : List Tk) (cd op : Nat) (body : List UInt8) (cu bh : Bool) (i : Nat) (c : UInt8) :
    isMore (evTill Tryd.prog [] 700 (behind Tryd.f34 0) 900 34 (headOf Tryd.f34 0) (envAt Tryd.f34.ntmps ([(1, .v .vl0), (2, vB raw), (7, vP 101), (8, vL 102 5 (T).length), (15, vL 60 1 N), (16, vN N), (17, vN (i : Nat))])) (rB 60 M B ++ (clK 101 104 1 cd op body cu bh ++ toK 102 103 T)) ⟨[.s true, .s true, .s true, .s true, .f, .f, .t, .s true, .f, .f, .f, .t, .s true, .s false, .f, .t, .t, .s true, .s true], 130⟩) (moreP (headOf Tryd.f34 0) ([((102 : Nat), Rn.to (138 : Nat)), ((104 : Nat), Rn.nil (1 : Nat)), ((103 : Nat), Rn.to (137 : Nat))]) Tryd.f34.ntmps ([(1, .v .vl0), (2, vB raw), (7, vP 101), (8, vL 102 5 ((T ++ [mk5 1 255 0 [] false])).length), (15, vL 60 1 N), (16, vN N), (17, vN (i + 1 : Nat))]) (clK 101 104 0 0 0 ([] : List UInt8) false false ++ toK 102 103 (T ++ [mk5 1 255 0 [] false])) 420) =
    (OkL [(decide ((↑i : Int) < (↑N : Int)), true), (decide ((0 : Int) ≤ (↑i : Int) ∧ (↑i : Int) < (↑N : Int)), true), (((0 : Nat) + (↑i : Int).toNat).blt M, true), (((0 : Nat) + (↑i : Int).toNat).blt M, true), (B [(0 : Nat) + (↑i : Int).toNat] == (255 : Int), true), (raw, true), (!raw, false), (((0 : Nat) + T.length).ble T.length, true), (decide (((2 : Nat) * (T.length + (1 : Nat)) + (192 : Nat)) * (56 : Nat) ≤ (281474976710656 : Nat)), true)] ∧ headOf Tryd.f34 (0 : Nat) = headOf Tryd.f34 (0 : Nat) ∧ (True ∧ raw = raw ∧ (0 : Nat) = (0 : Nat) ∧ ((0 : Nat) = (0 : Nat) ∧ (T ++ [mk5 (1 : Nat) (255 : Nat) (0 : Nat) [] false]).length = T.length + (1 : Nat)) ∧ ((0 : Nat) = (0 : Nat) ∧ N = N) ∧ (↑N : Int) = (↑N : Int) ∧ (↑(i + (1 : Nat)) : Int) = IntKind.i64.wrap ((↑i : Int) + (1 : Int))) ∧ (((↑(0 : Nat) : Int) = (0 : Int) ∧ (0 : Int) = (0 : Int) ∧ (↑(0 : Nat) : Int) = (0 : Int) ∧ (↑(0 : Nat) : Int) = (0 : Int) ∧ (0 : Nat) = (0 : Nat) ∧ false = false) ∧ false = false ∧ false = false) ∧ (0 : Nat) = (0 : Nat) ∧ ((T ++ [mk5 (1 : Nat) (255 : Nat) (0 : Nat) [] false]).length = T.length + (1 : Nat) ∧ (∀ (i : Nat), i < (T ++ [mk5 (1 : Nat) (255 : Nat) (0 : Nat) [] false]).length → kK (T ++ [mk5 (1 : Nat) (255 : Nat) (0 : Nat) [] false]) [i] = appF T.length (0 : Nat) (kK T) (fun js => (1 : Int)) [i]) ∧ (∀ (i : Nat), i < (T ++ [mk5 (1 : Nat) (255 : Nat) (0 : Nat) [] false]).length → kC (T ++ [mk5 (1 : Nat) (255 : Nat) (0 : Nat) [] false]) [i] = appF T.length (0 : Nat) (kC T) (fun js => (255 : Int)) [i]) ∧ (∀ (i : Nat), i < (T ++ [mk5 (1 : Nat) (255 : Nat) (0 : Nat) [] false]).length → kO (T ++ [mk5 (1 : Nat) (255 : Nat) (0 : Nat) [] false]) [i] = appF T.length (0 : Nat) (kO T) (fun js => (0 : Int)) [i]) ∧ ((∀ (i : Nat), i < (T ++ [mk5 (1 : Nat) (255 : Nat) (0 : Nat) [] false]).length → kM (T ++ [mk5 (1 : Nat) (255 : Nat) (0 : Nat) [] false]) [i] = appF T.length (0 : Nat) (fun is => kM T is + (1 : Nat)) (fun js => (0 : Nat)) [i]) ∧ ∀ (i : Nat), i < (T ++ [mk5 (1 : Nat) (255 : Nat) (0 : Nat) [] false]).length → kL (T ++ [mk5 (1 : Nat) (255 : Nat) (0 : Nat) [] false]) [i] = appF T.length (0 : Nat) (kL T) (fun js => (0 : Nat)) [i]) ∧ ∀ (i : Nat), i < (T ++ [mk5 (1 : Nat) (255 : Nat) (0 : Nat) [] false]).length → kU (T ++ [mk5 (1 : Nat) (255 : Nat) (0 : Nat) [] false]) [i] = appF T.length (0 : Nat) (kU T) (fun js => false) [i]) ∧ (T ++ [mk5 (1 : Nat) (255 : Nat) (0 : Nat) [] false]).length = T.length + (1 : Nat) ∧ ∀ (m : Nat), m < (T ++ [mk5 (1 : Nat) (255 : Nat) (0 : Nat) [] false]).length → gL (T ++ [mk5 (1 : Nat) (255 : Nat) (0 : Nat) [] false]) m = consN (0 : Nat) (gL T) m ∧ ∀ (i : Nat), i < gL (T ++ [mk5 (1 : Nat) (255 : Nat) (0 : Nat) [] false]) m → gB (T ++ [mk5 (1 : Nat) (255 : Nat) (0 : Nat) [] false]) [m, i] = consF (gB T) (gB T) [m, i]) := by kernel_rfl

set_option maxHeartbeats 4000000 in
theorem kq (N M : Nat) (B : Ix → Int) (raw : Bool) (T : List Tk) (cd op : Nat) (body : List UInt8) (cu bh : Bool) (i : Nat) (c : UInt8) (hi : i < N) (hN : N ≤ 400000) (hT : T.length ≤ 400000) (hl : body.length ≤ 256) (hb : B [i] = (c.toNat : Int)) (hc : c.toNat < 256) (hcd : cd < 256) (hop : op < 256) (hM : N ≤ M) (h : c.toNat = 255)  (v : SV) (L' : HF) (next : RunsTo Tryd.prog 34 (headOf Tryd.f34 0) (envAt Tryd.f34.ntmps ([(1, .v .vl0), (2, vB raw), (7, vP 101), (8, vL 102 5 ((T ++ [mk5 1 255 0 [] false])).length), (15, vL 60 1 N), (16, vN N), (17, vN (i + 1 : Nat))])) (Sx.look (rB 60 M B ++ (clK 101 104 0 0 0 ([] : List UInt8) false false ++ toK 102 103 (T ++ [mk5 1 255 0 [] false])))) 80 (v) (L') 420) :
    RunsTo Tryd.prog 34 (headOf Tryd.f34 0) (envAt Tryd.f34.ntmps ([(1, .v .vl0), (2, vB raw), (7, vP 101), (8, vL 102 5 (T).length), (15, vL 60 1 N), (16, vN N), (17, vN (i : Nat))])) (Sx.look (rB 60 M B ++ (clK 101 104 1 cd op body cu bh ++ toK 102 103 T))) 80 (v) (L') 420 := by
  have hw : IntKind.i64.wrap ((i : Int) + 1) = ((i + 1 : Nat) : Int) := by rw [wr64 (by omega)]; rfl
  have hb8 : IntKind.i64.wrap (c.toNat : Int) = (c.toNat : Int) := wr64 (by omega)
  have hu8 : IntKind.u8.wrap (c.toNat : Int) = (c.toNat : Int) := u8id (by omega)
  refine bcase (c := (raw)) (fun gg0 => ?_) (fun gg0 => ?_)
  · refine runs_more baseO (More.of (kq_p0 N M B raw T cd op body cu bh i c) ⟨?oo, rfl, ?rr⟩) (by kernel_rfl) (by kernel_rfl) rfl (gtL (by decide)) (by decide) next
    case oo =>
      clear next
      refine (okc ?_ (okc ?_ (okc ?_ (okc ?_ (okc ?_ (okc gg0 (okc ?_ (okc ?_ (okc ?_ okn)))))))))
      all_goals ((try simp (disch := omega) only [SS, hw, hb, hb8, hu8]); first | done | omega | assumption | (simp (disch := omega) only [SS, hw, hb, hb8, hu8] at *; first | done | omega | assumption) | (simp_all; done))
    case rr =>
      clear next
      simp (disch := omega) only [SS, hw, hb, hb8, hu8, Go.Sx.sum, List.length_append, List.length_cons, List.length_nil, Nat.zero_add]
      repeat' apply And.intro
      all_goals first | exact True.intro | with_reducible rfl | omega | exact kK_app T _ _ rfl | exact kC_app T _ _ rfl | exact kO_app T _ _ rfl | exact kL_app T _ _ rfl | exact kU_app T _ _ rfl | exact kM_app T _ _ _ (fun k hk => rfl) rfl | exact gL_cons T _ _ rfl | (intro m hm; exact ⟨gL_cons T _ _ rfl m hm, fun j hj => gB_cons T _ _ m hm j (fun j hj => by first | exact absurd hj (Nat.not_lt_zero _) | rfl | (simp [mk5]; done) | (simp [mk5, appF, subIx]; done)) hj⟩) | (intro k hk; exact app_byte1 body _ _ (by first | exact hb | (simpa [subIx] using hb) | (simp only [subIx, List.tail]; simp_all)) k hk) | (intro k hk; exact kC_app T _ _ (by first | rfl | (simp [mk5]; done) | (simp [mk5]; omega)) k hk) | (simp [subIx, hb]; done) | (simp_all [subIx]; done) | (intros; simp_all; done) | exact eq13 _ | exact (eq13 _).symm | (rw [Bool.eq_iff_iff]; simp; done) | (rw [Bool.eq_iff_iff]; simp; omega) | (simp_all; exact (eq13 _).symm) | (simp_all; exact eq13 _) | (simp_all; done)
  · refine runs_more baseO (More.of (kq_p1 N M B raw T cd op body cu bh i c) ⟨?oo, rfl, ?rr⟩) (by kernel_rfl) (by kernel_rfl) rfl (gtL (by decide)) (by decide) next
    case oo =>
      clear next
      refine (okc ?_ (okc ?_ (okc ?_ (okc ?_ (okc ?_ (okc gg0 (okc ?_ (okc ?_ (okc ?_ okn)))))))))
      all_goals ((try simp (disch := omega) only [SS, hw, hb, hb8, hu8]); first | done | omega | assumption | (simp (disch := omega) only [SS, hw, hb, hb8, hu8] at *; first | done | omega | assumption) | (simp_all; done))
    case rr =>
      clear next
      simp (disch := omega) only [SS, hw, hb, hb8, hu8, Go.Sx.sum, List.length_append, List.length_cons, List.length_nil, Nat.zero_add]
      repeat' apply And.intro
      all_goals first | exact True.intro | with_reducible rfl | omega | exact kK_app T _ _ rfl | exact kC_app T _ _ rfl | exact kO_app T _ _ rfl | exact kL_app T _ _ rfl | exact kU_app T _ _ rfl | exact kM_app T _ _ _ (fun k hk => rfl) rfl | exact gL_cons T _ _ rfl | (intro m hm; exact ⟨gL_cons T _ _ rfl m hm, fun j hj => gB_cons T _ _ m hm j (fun j hj => by first | exact absurd hj (Nat.not_lt_zero _) | rfl | (simp [mk5]; done) | (simp [mk5, appF, subIx]; done)) hj⟩) | (intro k hk; exact app_byte1 body _ _ (by first | exact hb | (simpa [subIx] using hb) | (simp only [subIx, List.tail]; simp_all)) k hk) | (intro k hk; exact kC_app T _ _ (by first | rfl | (simp [mk5]; done) | (simp [mk5]; omega)) k hk) | (simp [subIx, hb]; done) | (simp_all [subIx]; done) | (intros; simp_all; done) | exact eq13 _ | exact (eq13 _).symm | (rw [Bool.eq_iff_iff]; simp; done) | (rw [Bool.eq_iff_iff]; simp; omega) | (simp_all; exact (eq13 _).symm) | (simp_all; exact eq13 _) | (simp_all; done)

theorem kaEnd_p0 (N M : Nat) (B : Ix → Int) (raw : Bool) (T : List Tk) (st cd op : Nat) (body : List UInt8) (cu bh : Bool) (i : Nat) :
    isEnd (evTill Tryd.prog [] 700 (99) 900 34 (headOf Tryd.f34 0) (envAt Tryd.f34.ntmps ([(1, .v .vl0), (2, vB raw), (7, vP 101), (8, vL 102 5 (T).length), (15, vL 60 1 N), (16, vN N), (17, vN (i : Nat))])) (rB 60 M B ++ (clK 101 104 st cd op body cu bh ++ toK 102 103 T)) ⟨[.s false], 130⟩) (endP ([]) (vL 102 5 T.length) (toK 102 103 T) 420) =
    (OkL [(decide ((↑i : Int) < (↑N : Int)), false)] ∧ ((0 : Nat) = (0 : Nat) ∧ T.length = T.length) ∧ (T.length = T.length ∧ (∀ (i : Nat), i < T.length → kK T [i] = kK T [i]) ∧ (∀ (i : Nat), i < T.length → kC T [i] = kC T [i]) ∧ (∀ (i : Nat), i < T.length → kO T [i] = kO T [i]) ∧ ((∀ (i : Nat), i < T.length → kM T [i] = kM T [i]) ∧ ∀ (i : Nat), i < T.length → kL T [i] = kL T [i]) ∧ ∀ (i : Nat), i < T.length → kU T [i] = kU T [i]) ∧ T.length = T.length ∧ ∀ (m : Nat), m < T.length → gL T m = gL T m ∧ ∀ (i : Nat), i < gL T m → gB T [m, i] = gB T [m, i]) := by kernel_rfl

set_option maxHeartbeats 4000000 in
theorem kaEnd (N M : Nat) (B : Ix → Int) (raw : Bool) (T : List Tk) (st cd op : Nat) (body : List UInt8) (cu bh : Bool) (i : Nat) (hi : i = N) (hN : N ≤ 400000) (hT : T.length ≤ i)  :
    RunsTo Tryd.prog 34 (headOf Tryd.f34 0) (envAt Tryd.f34.ntmps ([(1, .v .vl0), (2, vB raw), (7, vP 101), (8, vL 102 5 (T).length), (15, vL 60 1 N), (16, vN N), (17, vN (i : Nat))])) (Sx.look (rB 60 M B ++ (clK 101 104 st cd op body cu bh ++ toK 102 103 T))) 80 (vL 102 5 T.length) (Sx.look (toK 102 103 T)) 420 := by
  refine runs_last baseO (Sx.Ends.of (kaEnd_p0 N M B raw T st cd op body cu bh i) ⟨?oo, ?rr⟩) (by kernel_rfl) rfl (gtL (by decide)) (by decide)
  case oo =>
    refine (okc ?_ okn)
    all_goals ((try simp (disch := omega) only [SS]); first | done | omega | assumption | (simp (disch := omega) only [SS] at *; first | done | omega | assumption) | (simp_all; done))
  case rr =>
    try simp (disch := omega) only [SS]
    repeat' apply And.intro
    all_goals first | exact True.intro | with_reducible rfl | omega | (intros; first | exact True.intro | with_reducible rfl | omega | (simp_all; done)) | (simp_all; done) | rfl

theorem kaLoop (N M : Nat) (B : Ix → Int) (raw : Bool) (bs : List UInt8) (hN : N ≤ 400000) (hM : N ≤ M) (hlen : bs.length = N) (hB : ∀ i, i < N → B [i] = ((bs.getD i 0).toNat : Int)) :
    ∀ (k i : Nat) (T : List Tk) (m : Mc) (bh : Bool), i + k = N → T.length ≤ i → m.body.length ≤ 256 → m.code < 256 → m.opt < 256 → m.st ≤ 5 → RunsTo Tryd.prog 34 (headOf Tryd.f34 0) (envAt Tryd.f34.ntmps ([(1, .v .vl0), (2, vB raw), (7, vP 101), (8, vL 102 5 (T).length), (15, vL 60 1 N), (16, vN N), (17, vN (i : Nat))])) (Sx.look (rB 60 M B ++ (clK 101 104 m.st m.code m.opt m.body m.cut bh ++ toK 102 103 T))) 80 (vL 102 5 ((T ++ cleanK raw m bh (bs.drop i))).length) (Sx.look (toK 102 103 (T ++ cleanK raw m bh (bs.drop i)))) 420 := by
  intro k
  induction k with
  | zero =>
    intro i T m bh hi hT hl hcd hop hst
    rw [show bs.drop i = [] from List.drop_eq_nil_of_le (by omega)]
    simp only [cleanK, List.append_nil]
    obtain ⟨st, cd, op, body, cu⟩ := m
    exact kaEnd N M B raw T st cd op body cu bh i (by omega) hN hT
  | succ k ih =>
    intro i T m bh hi hT hl hcd hop hst
    have hi' : i < N := by omega
    have hd : bs.drop i = bs.getD i 0 :: bs.drop (i + 1) := by
      rw [List.drop_eq_getElem_cons (by omega), List.getD_eq_getElem?_getD, List.getElem?_eq_getElem (by omega), Option.getD_some]
    have hb := hB i hi'
    generalize bs.getD i 0 = c at hd hb
    rw [hd]
    have hc := c.toNat_lt
    have hT2 : T.length ≤ 400000 := by omega
    obtain ⟨st, cd, op, body, cu⟩ := m
    simp only at hl hcd hop hst
    rcases (by omega : st = 0 ∨ st = 1 ∨ st = 2 ∨ st = 3 ∨ st = 4 ∨ st = 5) with rfl | rfl | rfl | rfl | rfl | rfl
    · by_cases h : c.toNat = 255
      · have e : c = 255 := u8eqK h
        have hf' : feedC ⟨0, cd, op, body, cu⟩ c = (⟨1, cd, op, body, cu⟩, none) := by simp [feedC, addC, mk5, Mc0, e]
        rw [cK_n hf']
        exact k0 N M B raw T cd op body cu bh i c hi' hN hT2 hl hb hc hcd hop hM h _ _ (ih (i + 1) T (⟨1, cd, op, body, cu⟩ : Mc) bh (by omega) (by first | omega | (simp only [Mc0, List.length_append, List.length_cons, List.length_nil] at *; omega)) (by first | omega | (simp only [Mc0, List.length_append, List.length_cons, List.length_nil] at *; omega)) (by first | omega | (simp only [Mc0, List.length_append, List.length_cons, List.length_nil] at *; omega)) (by first | omega | (simp only [Mc0, List.length_append, List.length_cons, List.length_nil] at *; omega)) (by first | omega | (simp only [Mc0, List.length_append, List.length_cons, List.length_nil] at *; omega)))
      · have n1 : c ≠ 255 := u8neK h
        cases hs : (raw || (c.toNat != 0 || !bh)) with
        | true =>
          have hf' : feedC ⟨0, cd, op, body, cu⟩ c = (Mc0, some (mk5 1 c.toNat 0 [] false)) := by simp [feedC, addC, mk5, Mc0, n1]
          rw [cK_d hf' rfl hs, List.append_cons]
          exact kd N M B raw T cd op body cu bh i c hi' hN hT2 hl hb hc hcd hop hM h hs _ _ (ih (i + 1) (T ++ [mk5 1 c.toNat 0 [] false]) (Mc0 : Mc) (!raw && c.toNat == 13) (by omega) (by first | omega | (simp only [Mc0, List.length_append, List.length_cons, List.length_nil] at *; omega)) (by first | omega | (simp only [Mc0, List.length_append, List.length_cons, List.length_nil] at *; omega)) (by first | omega | (simp only [Mc0, List.length_append, List.length_cons, List.length_nil] at *; omega)) (by first | omega | (simp only [Mc0, List.length_append, List.length_cons, List.length_nil] at *; omega)) (by first | omega | (simp only [Mc0, List.length_append, List.length_cons, List.length_nil] at *; omega)))
        | false =>
          have hs2 := hs
          simp only [Bool.or_eq_false_iff, bne_eq_false_iff_eq, Bool.not_eq_eq_eq_not, Bool.not_false] at hs2
          have hf' : feedC ⟨0, cd, op, body, cu⟩ c = (Mc0, some (mk5 1 c.toNat 0 [] false)) := by simp [feedC, addC, mk5, Mc0, n1]
          rw [cK_g hf' rfl hs]
          exact kg N M B raw T cd op body cu bh i c hi' hN hT2 hl hb hc hcd hop hM hs2.2.1 hs2.1 hs2.2.2 _ _ (ih (i + 1) T (Mc0 : Mc) false (by omega) (by first | omega | (simp only [Mc0, List.length_append, List.length_cons, List.length_nil] at *; omega)) (by first | omega | (simp only [Mc0, List.length_append, List.length_cons, List.length_nil] at *; omega)) (by first | omega | (simp only [Mc0, List.length_append, List.length_cons, List.length_nil] at *; omega)) (by first | omega | (simp only [Mc0, List.length_append, List.length_cons, List.length_nil] at *; omega)) (by first | omega | (simp only [Mc0, List.length_append, List.length_cons, List.length_nil] at *; omega)))
    · by_cases h : c.toNat = 255
      · have e : c = 255 := u8eqK h
        have hf' : feedC ⟨1, cd, op, body, cu⟩ c = (Mc0, some (mk5 1 255 0 [] false)) := by simp [feedC, addC, mk5, Mc0, e]
        rw [cK_d hf' rfl (by simp [mk5]), show (!raw && (mk5 1 255 0 [] false).code == 13) = false by simp [mk5], List.append_cons]
        exact kq N M B raw T cd op body cu bh i c hi' hN hT2 hl hb hc hcd hop hM h _ _ (ih (i + 1) (T ++ [mk5 1 255 0 [] false]) (Mc0 : Mc) false (by omega) (by first | omega | (simp only [Mc0, List.length_append, List.length_cons, List.length_nil] at *; omega)) (by first | omega | (simp only [Mc0, List.length_append, List.length_cons, List.length_nil] at *; omega)) (by first | omega | (simp only [Mc0, List.length_append, List.length_cons, List.length_nil] at *; omega)) (by first | omega | (simp only [Mc0, List.length_append, List.length_cons, List.length_nil] at *; omega)) (by first | omega | (simp only [Mc0, List.length_append, List.length_cons, List.length_nil] at *; omega)))
      have n1 : c ≠ 255 := u8neK h
      by_cases h2 : c.toNat = 250
      · have e2 : c = 250 := u8eqK h2
        have hf' : feedC ⟨1, cd, op, body, cu⟩ c = (⟨3, cd, op, body, cu⟩, none) := by simp [feedC, addC, mk5, Mc0, e2]
        rw [cK_n hf']
        exact k1s N M B raw T cd op body cu bh i c hi' hN hT2 hl hb hc hcd hop hM h2 _ _ (ih (i + 1) T (⟨3, cd, op, body, cu⟩ : Mc) bh (by omega) (by first | omega | (simp only [Mc0, List.length_append, List.length_cons, List.length_nil] at *; omega)) (by first | omega | (simp only [Mc0, List.length_append, List.length_cons, List.length_nil] at *; omega)) (by first | omega | (simp only [Mc0, List.length_append, List.length_cons, List.length_nil] at *; omega)) (by first | omega | (simp only [Mc0, List.length_append, List.length_cons, List.length_nil] at *; omega)) (by first | omega | (simp only [Mc0, List.length_append, List.length_cons, List.length_nil] at *; omega)))
      have n2 : c ≠ 250 := u8neK h2
      by_cases h4 : 251 ≤ c.toNat ∧ c.toNat ≤ 254
      · have hf' : feedC ⟨1, cd, op, body, cu⟩ c = (⟨2, c.toNat, 0, [], false⟩, none) := by simp [feedC, addC, mk5, Mc0, n1, n2, h4.1, h4.2]
        rw [cK_n hf']
        exact k1v N M B raw T cd op body cu bh i c hi' hN hT2 hl hb hc hcd hop hM h4 _ _ (ih (i + 1) T (⟨2, c.toNat, 0, [], false⟩ : Mc) bh (by omega) (by first | omega | (simp only [Mc0, List.length_append, List.length_cons, List.length_nil] at *; omega)) (by first | omega | (simp only [Mc0, List.length_append, List.length_cons, List.length_nil] at *; omega)) (by first | omega | (simp only [Mc0, List.length_append, List.length_cons, List.length_nil] at *; omega)) (by first | omega | (simp only [Mc0, List.length_append, List.length_cons, List.length_nil] at *; omega)) (by first | omega | (simp only [Mc0, List.length_append, List.length_cons, List.length_nil] at *; omega)))
      · have n3 : ¬ (251 ≤ c.toNat ∧ c.toNat ≤ 254) := h4
        have hf' : feedC ⟨1, cd, op, body, cu⟩ c = (Mc0, some (mk5 2 c.toNat 0 [] false)) := by simp [feedC, addC, mk5, Mc0, n1, n2, n3]
        rw [cK_o hf' (by simp [mk5]), List.append_cons]
        exact kP N M B raw T cd op body cu bh i c hi' hN hT2 hl hb hc hcd hop hM (by omega) _ _ (ih (i + 1) (T ++ [mk5 2 c.toNat 0 [] false]) (Mc0 : Mc) bh (by omega) (by first | omega | (simp only [Mc0, List.length_append, List.length_cons, List.length_nil] at *; omega)) (by first | omega | (simp only [Mc0, List.length_append, List.length_cons, List.length_nil] at *; omega)) (by first | omega | (simp only [Mc0, List.length_append, List.length_cons, List.length_nil] at *; omega)) (by first | omega | (simp only [Mc0, List.length_append, List.length_cons, List.length_nil] at *; omega)) (by first | omega | (simp only [Mc0, List.length_append, List.length_cons, List.length_nil] at *; omega)))
    · have hf' : feedC ⟨2, cd, op, body, cu⟩ c = (Mc0, some (mk5 3 cd c.toNat [] false)) := by simp [feedC, addC, mk5, Mc0]
      rw [cK_o hf' (by simp [mk5]), List.append_cons]
      exact kV N M B raw T cd op body cu bh i c hi' hN hT2 hl hb hc hcd hop hM _ _ (ih (i + 1) (T ++ [mk5 3 cd c.toNat [] false]) (Mc0 : Mc) bh (by omega) (by first | omega | (simp only [Mc0, List.length_append, List.length_cons, List.length_nil] at *; omega)) (by first | omega | (simp only [Mc0, List.length_append, List.length_cons, List.length_nil] at *; omega)) (by first | omega | (simp only [Mc0, List.length_append, List.length_cons, List.length_nil] at *; omega)) (by first | omega | (simp only [Mc0, List.length_append, List.length_cons, List.length_nil] at *; omega)) (by first | omega | (simp only [Mc0, List.length_append, List.length_cons, List.length_nil] at *; omega)))
    · have hf' : feedC ⟨3, cd, op, body, cu⟩ c = (⟨4, 0, c.toNat, [], false⟩, none) := by simp [feedC, addC, mk5, Mc0]
      rw [cK_n hf']
      exact k3 N M B raw T cd op body cu bh i c hi' hN hT2 hl hb hc hcd hop hM _ _ (ih (i + 1) T (⟨4, 0, c.toNat, [], false⟩ : Mc) bh (by omega) (by first | omega | (simp only [Mc0, List.length_append, List.length_cons, List.length_nil] at *; omega)) (by first | omega | (simp only [Mc0, List.length_append, List.length_cons, List.length_nil] at *; omega)) (by first | omega | (simp only [Mc0, List.length_append, List.length_cons, List.length_nil] at *; omega)) (by first | omega | (simp only [Mc0, List.length_append, List.length_cons, List.length_nil] at *; omega)) (by first | omega | (simp only [Mc0, List.length_append, List.length_cons, List.length_nil] at *; omega)))
    · by_cases h : c.toNat = 255
      · have e : c = 255 := u8eqK h
        have hf' : feedC ⟨4, cd, op, body, cu⟩ c = (⟨5, cd, op, body, cu⟩, none) := by simp [feedC, addC, mk5, Mc0, e]
        rw [cK_n hf']
        exact k4e N M B raw T cd op body cu bh i c hi' hN hT2 hl hb hc hcd hop hM h _ _ (ih (i + 1) T (⟨5, cd, op, body, cu⟩ : Mc) bh (by omega) (by first | omega | (simp only [Mc0, List.length_append, List.length_cons, List.length_nil] at *; omega)) (by first | omega | (simp only [Mc0, List.length_append, List.length_cons, List.length_nil] at *; omega)) (by first | omega | (simp only [Mc0, List.length_append, List.length_cons, List.length_nil] at *; omega)) (by first | omega | (simp only [Mc0, List.length_append, List.length_cons, List.length_nil] at *; omega)) (by first | omega | (simp only [Mc0, List.length_append, List.length_cons, List.length_nil] at *; omega)))
      · have n1 : c ≠ 255 := u8neK h
        by_cases hf : body.length < 256
        · have hf' : feedC ⟨4, cd, op, body, cu⟩ c = (⟨4, cd, op, body ++ [c], cu⟩, none) := by simp [feedC, addC, mk5, Mc0, n1, hf] <;> simp_all <;> omega
          rw [cK_n hf']
          exact k4 N M B raw T cd op body cu bh i c hi' hN hT2 hl hb hc hcd hop hM h hf _ _ (ih (i + 1) T (⟨4, cd, op, body ++ [c], cu⟩ : Mc) bh (by omega) (by first | omega | (simp only [Mc0, List.length_append, List.length_cons, List.length_nil] at *; omega)) (by first | omega | (simp only [Mc0, List.length_append, List.length_cons, List.length_nil] at *; omega)) (by first | omega | (simp only [Mc0, List.length_append, List.length_cons, List.length_nil] at *; omega)) (by first | omega | (simp only [Mc0, List.length_append, List.length_cons, List.length_nil] at *; omega)) (by first | omega | (simp only [Mc0, List.length_append, List.length_cons, List.length_nil] at *; omega)))
        · have hf : 256 ≤ body.length := by omega
          have hf' : feedC ⟨4, cd, op, body, cu⟩ c = (⟨4, cd, op, body, true⟩, none) := by simp [feedC, addC, mk5, Mc0, n1, hf] <;> simp_all <;> omega
          rw [cK_n hf']
          exact k4c N M B raw T cd op body cu bh i c hi' hN hT2 hl hb hc hcd hop hM h hf _ _ (ih (i + 1) T (⟨4, cd, op, body, true⟩ : Mc) bh (by omega) (by first | omega | (simp only [Mc0, List.length_append, List.length_cons, List.length_nil] at *; omega)) (by first | omega | (simp only [Mc0, List.length_append, List.length_cons, List.length_nil] at *; omega)) (by first | omega | (simp only [Mc0, List.length_append, List.length_cons, List.length_nil] at *; omega)) (by first | omega | (simp only [Mc0, List.length_append, List.length_cons, List.length_nil] at *; omega)) (by first | omega | (simp only [Mc0, List.length_append, List.length_cons, List.length_nil] at *; omega)))
    · by_cases h : c.toNat = 255
      · have e : c = 255 := u8eqK h
        by_cases hf : body.length < 256
        · have hf' : feedC ⟨5, cd, op, body, cu⟩ c = (⟨4, cd, op, body ++ [255], cu⟩, none) := by simp [feedC, addC, mk5, Mc0, e, hf] <;> simp_all <;> omega
          rw [cK_n hf']
          exact k5e N M B raw T cd op body cu bh i c hi' hN hT2 hl hb hc hcd hop hM h hf _ _ (ih (i + 1) T (⟨4, cd, op, body ++ [255], cu⟩ : Mc) bh (by omega) (by first | omega | (simp only [Mc0, List.length_append, List.length_cons, List.length_nil] at *; omega)) (by first | omega | (simp only [Mc0, List.length_append, List.length_cons, List.length_nil] at *; omega)) (by first | omega | (simp only [Mc0, List.length_append, List.length_cons, List.length_nil] at *; omega)) (by first | omega | (simp only [Mc0, List.length_append, List.length_cons, List.length_nil] at *; omega)) (by first | omega | (simp only [Mc0, List.length_append, List.length_cons, List.length_nil] at *; omega)))
        · have hf : 256 ≤ body.length := by omega
          have hf' : feedC ⟨5, cd, op, body, cu⟩ c = (⟨4, cd, op, body, true⟩, none) := by simp [feedC, addC, mk5, Mc0, e, hf] <;> simp_all <;> omega
          rw [cK_n hf']
          exact k5c N M B raw T cd op body cu bh i c hi' hN hT2 hl hb hc hcd hop hM h hf _ _ (ih (i + 1) T (⟨4, cd, op, body, true⟩ : Mc) bh (by omega) (by first | omega | (simp only [Mc0, List.length_append, List.length_cons, List.length_nil] at *; omega)) (by first | omega | (simp only [Mc0, List.length_append, List.length_cons, List.length_nil] at *; omega)) (by first | omega | (simp only [Mc0, List.length_append, List.length_cons, List.length_nil] at *; omega)) (by first | omega | (simp only [Mc0, List.length_append, List.length_cons, List.length_nil] at *; omega)) (by first | omega | (simp only [Mc0, List.length_append, List.length_cons, List.length_nil] at *; omega)))
      have n1 : c ≠ 255 := u8neK h
      by_cases h2 : c.toNat = 240
      · have e2 : c = 240 := u8eqK h2
        have hf' : feedC ⟨5, cd, op, body, cu⟩ c = (Mc0, some (mk5 4 cd op body cu)) := by simp [feedC, addC, mk5, Mc0, e2]
        rw [cK_o hf' (by simp [mk5]), List.append_cons]
        exact kS N M B raw T cd op body cu bh i c hi' hN hT2 hl hb hc hcd hop hM h2 _ _ (ih (i + 1) (T ++ [mk5 4 cd op body cu]) (Mc0 : Mc) bh (by omega) (by first | omega | (simp only [Mc0, List.length_append, List.length_cons, List.length_nil] at *; omega)) (by first | omega | (simp only [Mc0, List.length_append, List.length_cons, List.length_nil] at *; omega)) (by first | omega | (simp only [Mc0, List.length_append, List.length_cons, List.length_nil] at *; omega)) (by first | omega | (simp only [Mc0, List.length_append, List.length_cons, List.length_nil] at *; omega)) (by first | omega | (simp only [Mc0, List.length_append, List.length_cons, List.length_nil] at *; omega)))
      · have n2 : c ≠ 240 := u8neK h2
        have hf' : feedC ⟨5, cd, op, body, cu⟩ c = (Mc0, some (mk5 5 c.toNat op [] false)) := by simp [feedC, addC, mk5, Mc0, n1, n2]
        rw [cK_o hf' (by simp [mk5]), List.append_cons]
        exact kB N M B raw T cd op body cu bh i c hi' hN hT2 hl hb hc hcd hop hM h h2 _ _ (ih (i + 1) (T ++ [mk5 5 c.toNat op [] false]) (Mc0 : Mc) bh (by omega) (by first | omega | (simp only [Mc0, List.length_append, List.length_cons, List.length_nil] at *; omega)) (by first | omega | (simp only [Mc0, List.length_append, List.length_cons, List.length_nil] at *; omega)) (by first | omega | (simp only [Mc0, List.length_append, List.length_cons, List.length_nil] at *; omega)) (by first | omega | (simp only [Mc0, List.length_append, List.length_cons, List.length_nil] at *; omega)) (by first | omega | (simp only [Mc0, List.length_append, List.length_cons, List.length_nil] at *; omega)))
def kaF (N : Nat) (B : Ix → Int) (raw : Bool) : List Tk := (cleanK raw Mc0 false (bytesOf B [] 0 N))
theorem kaI (N M : Nat) (B : Ix → Int) (raw : Bool) (hN : N ≤ 400000) (hM : N ≤ M) (hB : bndB B N = true) : RunsTo Tryd.prog 34 [.code (bodyOf Tryd.f34)] (envOf [vL 60 1 N, .v .vl0, vB raw] Tryd.f34.ntmps) (Sx.look (rB 60 M B ++ ([]))) 80 (vL 102 5 ((kaF N B raw)).length) (Sx.look (toK 102 103 (kaF N B raw))) 420 := by
  have q := kaLoop N M B raw (bytesOf B [] 0 N) hN hM (bytesOf_len _ _ _ _) (fun i hi => by have h0 := bndB_ok hB hi; have := bytesOf_nat (B := B) (is := []) (st := 0) (n := N) hi (by simpa using h0); simpa using this.symm) N 0 [] Mc0 false (by omega) (by simp) (by simp [Mc0]) (by simp [Mc0]) (by simp [Mc0]) (by simp [Mc0])
  rw [List.drop_zero, List.nil_append] at q
  show RunsTo Tryd.prog 34 [.code (bodyOf Tryd.f34)] (envOf [vL 60 1 N, .v .vl0, vB raw] Tryd.f34.ntmps) (Sx.look (rB 60 M B ++ ([]))) 80 (vL 102 5 ((cleanK raw Mc0 false (bytesOf B [] 0 N))).length) (Sx.look (toK 102 103 (cleanK raw Mc0 false (bytesOf B [] 0 N)))) 420
  exact kaStart N M B raw _ _ q
def kaP : PC := { args := [.v (.vl 60 1 0), .v .vl0, .v (.vb 4)], heap := [⟨60, false, 1, .ta 9 (.vi .u8 1)⟩], gs := [], G := 19, tp := 144, n := 80, n' := 420, cond := fun e => decide (eN e 0 ≤ 400000) && (decide (eN e 0 ≤ eN e 9) && bndB (eI e 1) (eN e 0)), v := fun e => vL 102 5 (kaF (eN e 0) (eI e 1) (eB e 4 [])).length, post := fun e => toK 102 103 (kaF (eN e 0) (eI e 1) (eB e 4 [])) }
theorem kaP_pc : PC.Runs Tryd.prog 34 Tryd.f34 (bodyOf Tryd.f34) kaP := ⟨Tryd.func34, by kernel_rfl, (fun g hg => by first | (cases hg; done) | (revert g; show ∀ g ∈ ([] : List Nat), g < 19; decide)), fun e H hc => by
  have hc : (decide (eN e 0 ≤ 400000) && (decide (eN e 0 ≤ eN e 9) && bndB (eI e 1) (eN e 0))) = true := hc
  try simp only [Bool.and_eq_true, decide_eq_true_eq, Nat.beq_eq] at hc
  exact kaI (eN e 0) (eN e 9) (eI e 1) (eB e 4 []) hc.1 hc.2.1 hc.2.2⟩
end Go.Proofs.YtcphocfnhekdaaaDoor

set_option linter.unusedSimpArgs false
set_option linter.unusedVariables false
set_option maxRecDepth 100000
namespace Go.Proofs.YtcphocfnhekdaaaDoor
open Go.Sx

open GramR
def enB (N : Nat) (B : Ix → Int) (raw : Bool) : List UInt8 := encL raw (bytesOf B [] 0 N)
def daB (N : Nat) (B : Ix → Int) (raw : Bool) : List UInt8 := dataK (kaF N B raw)
theorem u8wA (n : Nat) : IntKind.u8.wrap (n : Int) = ((UInt8.ofNat n).toNat : Int) := by
  simp only [IntKind.wrap, IntKind.bits, IntKind.signed]
  simp
theorem app_two (a : List UInt8) (x y : UInt8) (f g : Ix → Int) (hf : f [0] = (x.toNat : Int)) (hg : g [0] = (y.toNat : Int)) :
    ∀ k, k < a.length + 1 + 1 → (((a ++ [x] ++ [y]).getD k 0).toNat : Int) = appF (a.length + 1) 0 (appF a.length 0 (fun is => ((a.getD (is.headD 0) 0).toNat : Int)) f) g [k] := by
  intro k hk
  have e : a.length + 1 = (a ++ [x]).length := by simp
  have := app_byte (a ++ [x]) y g hg k (by simp; omega)
  rw [this]
  simp only [appF, Nat.zero_add, e, List.headD_cons]
  split
  · rename_i h
    have q := app_byte1 a x f hf k (by simpa using h)
    simp only [appF, Nat.zero_add, List.headD_cons] at q
    exact q
  · rfl
theorem enStart_p0 (N M : Nat) (B : Ix → Int) (raw : Bool) :
    isMore (evTill Tryd.prog [] 300 (behind Tryd.f36 0) 900 36 [.code (bodyOf Tryd.f36)] (envOf [vL 60 1 N, vB raw] Tryd.f36.ntmps) (rB 60 M B ++ ([])) ⟨[], 80⟩) (moreP (headOf Tryd.f36 0) ([((101 : Nat), Rn.nil (1 : Nat))]) Tryd.f36.ntmps ([(0, vL 60 1 N), (1, vB raw), (5, vL 101 1 (([] : List UInt8)).length), (8, vL 60 1 N), (9, vN N), (10, vN (0 : Nat))]) (bW 101 (([] : List UInt8))) 200) =
    (OkL [] ∧ headOf Tryd.f36 (0 : Nat) = headOf Tryd.f36 (0 : Nat) ∧ (((0 : Nat) = (0 : Nat) ∧ N = N) ∧ raw = raw ∧ (0 : Nat) = (0 : Nat) ∧ ((0 : Nat) = (0 : Nat) ∧ N = N) ∧ (↑N : Int) = (↑N : Int) ∧ (↑(0 : Nat) : Int) = (0 : Int)) ∧ (0 : Nat) = (0 : Nat)) := by kernel_rfl

set_option maxHeartbeats 4000000 in
theorem enStart (N M : Nat) (B : Ix → Int) (raw : Bool)  (v : SV) (L' : HF) (next : RunsTo Tryd.prog 36 (headOf Tryd.f36 0) (envAt Tryd.f36.ntmps ([(0, vL 60 1 N), (1, vB raw), (5, vL 101 1 (([] : List UInt8)).length), (8, vL 60 1 N), (9, vN N), (10, vN (0 : Nat))])) (Sx.look (rB 60 M B ++ (bW 101 (([] : List UInt8))))) 80 (v) (L') 200) :
    RunsTo Tryd.prog 36 [.code (bodyOf Tryd.f36)] (envOf [vL 60 1 N, vB raw] Tryd.f36.ntmps) (Sx.look (rB 60 M B ++ ([]))) 80 (v) (L') 200 := by
  refine runs_more baseO (More.of (enStart_p0 N M B raw) ⟨?oo, rfl, ?rr⟩) (by kernel_rfl) (by kernel_rfl) rfl (gtL (by decide)) (by decide) next
  case oo =>
    clear next
    refine okn
    all_goals ((try simp (disch := omega) only [SS]); first | done | omega | assumption | (simp (disch := omega) only [SS] at *; first | done | omega | assumption) | (simp_all; done))
  case rr =>
    clear next
    try simp (disch := omega) only [SS]
    repeat' apply And.intro
    all_goals first | exact True.intro | with_reducible rfl | omega | (intros; first | exact True.intro | with_reducible rfl | omega | (simp_all; done)) | (simp_all; done) | rfl

theorem enR_p0 (N M : Nat) (B : Ix → Int) (raw : Bool) (o : List UInt8) (i : Nat) (c : UInt8) :
    isMore (evTill Tryd.prog [] 300 (behind Tryd.f36 0) 900 36 (headOf Tryd.f36 0) (envAt Tryd.f36.ntmps ([(0, vL 60 1 N), (1, vB raw), (5, vL 101 1 (o).length), (8, vL 60 1 N), (9, vN N), (10, vN (i : Nat))])) (rB 60 M B ++ (bW 101 (o))) ⟨[.s true, .s true, .s true, .s true, .t, .s true, .s true, .s false], 120⟩) (moreP (headOf Tryd.f36 0) ([((101 : Nat), Rn.to (121 : Nat))]) Tryd.f36.ntmps ([(0, vL 60 1 N), (1, vB raw), (5, vL 101 1 (o ++ [c]).length), (8, vL 60 1 N), (9, vN N), (10, vN (i + 1 : Nat))]) (bW 101 (o ++ [c])) 200) =
    (OkL [(decide ((↑i : Int) < (↑N : Int)), true), (decide ((0 : Int) ≤ (↑i : Int) ∧ (↑i : Int) < (↑N : Int)), true), (((0 : Nat) + (↑i : Int).toNat).blt M, true), (((0 : Nat) + (↑i : Int).toNat).blt M, true), (((0 : Nat) + o.length).ble o.length, true), (decide (((2 : Nat) * (o.length + (1 : Nat)) + (192 : Nat)) * (1 : Nat) ≤ (281474976710656 : Nat)), true), (!raw, false)] ∧ headOf Tryd.f36 (0 : Nat) = headOf Tryd.f36 (0 : Nat) ∧ (((0 : Nat) = (0 : Nat) ∧ N = N) ∧ raw = raw ∧ ((0 : Nat) = (0 : Nat) ∧ (o ++ [c]).length = o.length + (1 : Nat)) ∧ ((0 : Nat) = (0 : Nat) ∧ N = N) ∧ (↑N : Int) = (↑N : Int) ∧ (↑(i + (1 : Nat)) : Int) = IntKind.i64.wrap ((↑i : Int) + (1 : Int))) ∧ (o ++ [c]).length = o.length + (1 : Nat) ∧ ∀ (i_1 : Nat), i_1 < (o ++ [c]).length → (↑((o ++ [c]).getD i_1 (0 : UInt8)).toNat : Int) = appF o.length (0 : Nat) (fun is => (↑(o.getD (List.headD is (0 : Nat)) (0 : UInt8)).toNat : Int)) (fun js => B (((0 : Nat) + (↑i : Int).toNat) :: List.tail (subIx (0 : Nat) js))) [i_1]) := by kernel_rfl

set_option maxHeartbeats 4000000 in
theorem enR (N M : Nat) (B : Ix → Int) (raw : Bool) (o : List UInt8) (i : Nat) (c : UInt8) (hi : i < N) (hN : N ≤ 1000) (hM : N ≤ M) (ho : o.length ≤ 2 * i) (hb : B [i] = (c.toNat : Int)) (hr : raw = true)  (v : SV) (L' : HF) (next : RunsTo Tryd.prog 36 (headOf Tryd.f36 0) (envAt Tryd.f36.ntmps ([(0, vL 60 1 N), (1, vB raw), (5, vL 101 1 (o ++ [c]).length), (8, vL 60 1 N), (9, vN N), (10, vN (i + 1 : Nat))])) (Sx.look (rB 60 M B ++ (bW 101 (o ++ [c])))) 80 (v) (L') 200) :
    RunsTo Tryd.prog 36 (headOf Tryd.f36 0) (envAt Tryd.f36.ntmps ([(0, vL 60 1 N), (1, vB raw), (5, vL 101 1 (o).length), (8, vL 60 1 N), (9, vN N), (10, vN (i : Nat))])) (Sx.look (rB 60 M B ++ (bW 101 (o)))) 80 (v) (L') 200 := by
  have hw : IntKind.i64.wrap ((i : Int) + 1) = ((i + 1 : Nat) : Int) := by rw [wr64 (by omega)]; rfl
  have hw1 : IntKind.i64.wrap ((N : Int) - 1) = (N : Int) - 1 := wr64 (by omega)
  refine runs_more baseO (More.of (enR_p0 N M B raw o i c) ⟨?oo, rfl, ?rr⟩) (by kernel_rfl) (by kernel_rfl) rfl (gtL (by decide)) (by decide) next
  case oo =>
    clear next
    refine (okc ?_ (okc ?_ (okc ?_ (okc ?_ (okc ?_ (okc ?_ (okc ?_ okn)))))))
    all_goals ((try simp (disch := omega) only [SS, hw, hw1, hb]); first | done | omega | assumption | (simp (disch := omega) only [SS, hw, hw1, hb] at *; first | done | omega | assumption) | (simp_all; done))
  case rr =>
    clear next
    simp (disch := omega) only [SS, hw, hw1, hb, Go.Sx.sum, List.length_append, List.length_cons, List.length_nil, Nat.zero_add]
    repeat' apply And.intro
    all_goals first | exact True.intro | with_reducible rfl | omega | (intro k hk; exact app_byte1 o _ _ (by first | exact hb | (simpa [subIx] using hb) | (simp only [subIx, List.tail]; simp_all)) k hk) | (intro k hk; exact app_two o c 0 _ _ (by first | exact hb | (simpa [subIx] using hb) | (simp only [subIx, List.tail]; simp_all)) rfl k hk) | (simp_all; done)

theorem enO_p0 (N M : Nat) (B : Ix → Int) (raw : Bool) (o : List UInt8) (i : Nat) (c : UInt8) :
    isMore (evTill Tryd.prog [] 300 (behind Tryd.f36 0) 900 36 (headOf Tryd.f36 0) (envAt Tryd.f36.ntmps ([(0, vL 60 1 N), (1, vB raw), (5, vL 101 1 (o).length), (8, vL 60 1 N), (9, vN N), (10, vN (i : Nat))])) (rB 60 M B ++ (bW 101 (o))) ⟨[.s true, .s true, .s true, .s true, .t, .s true, .s true, .s true, .s false], 120⟩) (moreP (headOf Tryd.f36 0) ([((101 : Nat), Rn.to (121 : Nat))]) Tryd.f36.ntmps ([(0, vL 60 1 N), (1, vB raw), (5, vL 101 1 (o ++ [c]).length), (8, vL 60 1 N), (9, vN N), (10, vN (i + 1 : Nat))]) (bW 101 (o ++ [c])) 200) =
    (OkL [(decide ((↑i : Int) < (↑N : Int)), true), (decide ((0 : Int) ≤ (↑i : Int) ∧ (↑i : Int) < (↑N : Int)), true), (((0 : Nat) + (↑i : Int).toNat).blt M, true), (((0 : Nat) + (↑i : Int).toNat).blt M, true), (((0 : Nat) + o.length).ble o.length, true), (decide (((2 : Nat) * (o.length + (1 : Nat)) + (192 : Nat)) * (1 : Nat) ≤ (281474976710656 : Nat)), true), (!raw, true), (B [(0 : Nat) + (↑i : Int).toNat] == (13 : Int), false)] ∧ headOf Tryd.f36 (0 : Nat) = headOf Tryd.f36 (0 : Nat) ∧ (((0 : Nat) = (0 : Nat) ∧ N = N) ∧ raw = raw ∧ ((0 : Nat) = (0 : Nat) ∧ (o ++ [c]).length = o.length + (1 : Nat)) ∧ ((0 : Nat) = (0 : Nat) ∧ N = N) ∧ (↑N : Int) = (↑N : Int) ∧ (↑(i + (1 : Nat)) : Int) = IntKind.i64.wrap ((↑i : Int) + (1 : Int))) ∧ (o ++ [c]).length = o.length + (1 : Nat) ∧ ∀ (i_1 : Nat), i_1 < (o ++ [c]).length → (↑((o ++ [c]).getD i_1 (0 : UInt8)).toNat : Int) = appF o.length (0 : Nat) (fun is => (↑(o.getD (List.headD is (0 : Nat)) (0 : UInt8)).toNat : Int)) (fun js => B (((0 : Nat) + (↑i : Int).toNat) :: List.tail (subIx (0 : Nat) js))) [i_1]) := by kernel_rfl

set_option maxHeartbeats 4000000 in
theorem enO (N M : Nat) (B : Ix → Int) (raw : Bool) (o : List UInt8) (i : Nat) (c : UInt8) (hi : i < N) (hN : N ≤ 1000) (hM : N ≤ M) (ho : o.length ≤ 2 * i) (hb : B [i] = (c.toNat : Int)) (hr : raw = false) (h : c.toNat ≠ 13)  (v : SV) (L' : HF) (next : RunsTo Tryd.prog 36 (headOf Tryd.f36 0) (envAt Tryd.f36.ntmps ([(0, vL 60 1 N), (1, vB raw), (5, vL 101 1 (o ++ [c]).length), (8, vL 60 1 N), (9, vN N), (10, vN (i + 1 : Nat))])) (Sx.look (rB 60 M B ++ (bW 101 (o ++ [c])))) 80 (v) (L') 200) :
    RunsTo Tryd.prog 36 (headOf Tryd.f36 0) (envAt Tryd.f36.ntmps ([(0, vL 60 1 N), (1, vB raw), (5, vL 101 1 (o).length), (8, vL 60 1 N), (9, vN N), (10, vN (i : Nat))])) (Sx.look (rB 60 M B ++ (bW 101 (o)))) 80 (v) (L') 200 := by
  have hw : IntKind.i64.wrap ((i : Int) + 1) = ((i + 1 : Nat) : Int) := by rw [wr64 (by omega)]; rfl
  have hw1 : IntKind.i64.wrap ((N : Int) - 1) = (N : Int) - 1 := wr64 (by omega)
  refine runs_more baseO (More.of (enO_p0 N M B raw o i c) ⟨?oo, rfl, ?rr⟩) (by kernel_rfl) (by kernel_rfl) rfl (gtL (by decide)) (by decide) next
  case oo =>
    clear next
    refine (okc ?_ (okc ?_ (okc ?_ (okc ?_ (okc ?_ (okc ?_ (okc ?_ (okc ?_ okn))))))))
    all_goals ((try simp (disch := omega) only [SS, hw, hw1, hb]); first | done | omega | assumption | (simp (disch := omega) only [SS, hw, hw1, hb] at *; first | done | omega | assumption) | (simp_all; done))
  case rr =>
    clear next
    simp (disch := omega) only [SS, hw, hw1, hb, Go.Sx.sum, List.length_append, List.length_cons, List.length_nil, Nat.zero_add]
    repeat' apply And.intro
    all_goals first | exact True.intro | with_reducible rfl | omega | (intro k hk; exact app_byte1 o _ _ (by first | exact hb | (simpa [subIx] using hb) | (simp only [subIx, List.tail]; simp_all)) k hk) | (intro k hk; exact app_two o c 0 _ _ (by first | exact hb | (simpa [subIx] using hb) | (simp only [subIx, List.tail]; simp_all)) rfl k hk) | (simp_all; done)

theorem enL_p0 (N M : Nat) (B : Ix → Int) (raw : Bool) (o : List UInt8) (i : Nat) (c : UInt8) :
    isMore (evTill Tryd.prog [] 300 (behind Tryd.f36 0) 900 36 (headOf Tryd.f36 0) (envAt Tryd.f36.ntmps ([(0, vL 60 1 N), (1, vB raw), (5, vL 101 1 (o).length), (8, vL 60 1 N), (9, vN N), (10, vN (i : Nat))])) (rB 60 M B ++ (bW 101 (o))) ⟨[.s true, .s true, .s true, .s true, .t, .s true, .s true, .s true, .s true, .s false, .s true, .s true, .s true, .s false], 120⟩) (moreP (headOf Tryd.f36 0) ([((101 : Nat), Rn.to (121 : Nat))]) Tryd.f36.ntmps ([(0, vL 60 1 N), (1, vB raw), (5, vL 101 1 (o ++ [c]).length), (8, vL 60 1 N), (9, vN N), (10, vN (i + 1 : Nat))]) (bW 101 (o ++ [c])) 200) =
    (OkL [(decide ((↑i : Int) < (↑N : Int)), true), (decide ((0 : Int) ≤ (↑i : Int) ∧ (↑i : Int) < (↑N : Int)), true), (((0 : Nat) + (↑i : Int).toNat).blt M, true), (((0 : Nat) + (↑i : Int).toNat).blt M, true), (((0 : Nat) + o.length).ble o.length, true), (decide (((2 : Nat) * (o.length + (1 : Nat)) + (192 : Nat)) * (1 : Nat) ≤ (281474976710656 : Nat)), true), (!raw, true), (B [(0 : Nat) + (↑i : Int).toNat] == (13 : Int), true), ((↑i : Int) == IntKind.i64.wrap ((↑N : Int) - (1 : Int)), false), (decide ((0 : Int) ≤ IntKind.i64.wrap ((↑i : Int) + (1 : Int)) ∧ IntKind.i64.wrap ((↑i : Int) + (1 : Int)) < (↑N : Int)), true), (((0 : Nat) + (IntKind.i64.wrap ((↑i : Int) + (1 : Int))).toNat).blt M, true), (((0 : Nat) + (IntKind.i64.wrap ((↑i : Int) + (1 : Int))).toNat).blt M, true), (B [(0 : Nat) + (IntKind.i64.wrap ((↑i : Int) + (1 : Int))).toNat] != (10 : Int), false)] ∧ headOf Tryd.f36 (0 : Nat) = headOf Tryd.f36 (0 : Nat) ∧ (((0 : Nat) = (0 : Nat) ∧ N = N) ∧ raw = raw ∧ ((0 : Nat) = (0 : Nat) ∧ (o ++ [c]).length = o.length + (1 : Nat)) ∧ ((0 : Nat) = (0 : Nat) ∧ N = N) ∧ (↑N : Int) = (↑N : Int) ∧ (↑(i + (1 : Nat)) : Int) = IntKind.i64.wrap ((↑i : Int) + (1 : Int))) ∧ (o ++ [c]).length = o.length + (1 : Nat) ∧ ∀ (i_1 : Nat), i_1 < (o ++ [c]).length → (↑((o ++ [c]).getD i_1 (0 : UInt8)).toNat : Int) = appF o.length (0 : Nat) (fun is => (↑(o.getD (List.headD is (0 : Nat)) (0 : UInt8)).toNat : Int)) (fun js => B (((0 : Nat) + (↑i : Int).toNat) :: List.tail (subIx (0 : Nat) js))) [i_1]) := by kernel_rfl

set_option maxHeartbeats 4000000 in
theorem enL (N M : Nat) (B : Ix → Int) (raw : Bool) (o : List UInt8) (i : Nat) (c : UInt8) (hi : i < N) (hN : N ≤ 1000) (hM : N ≤ M) (ho : o.length ≤ 2 * i) (hb : B [i] = (c.toNat : Int)) (hr : raw = false) (h : c.toNat = 13) (h2 : i + 1 < N) (h3 : B [i + 1] = 10)  (v : SV) (L' : HF) (next : RunsTo Tryd.prog 36 (headOf Tryd.f36 0) (envAt Tryd.f36.ntmps ([(0, vL 60 1 N), (1, vB raw), (5, vL 101 1 (o ++ [c]).length), (8, vL 60 1 N), (9, vN N), (10, vN (i + 1 : Nat))])) (Sx.look (rB 60 M B ++ (bW 101 (o ++ [c])))) 80 (v) (L') 200) :
    RunsTo Tryd.prog 36 (headOf Tryd.f36 0) (envAt Tryd.f36.ntmps ([(0, vL 60 1 N), (1, vB raw), (5, vL 101 1 (o).length), (8, vL 60 1 N), (9, vN N), (10, vN (i : Nat))])) (Sx.look (rB 60 M B ++ (bW 101 (o)))) 80 (v) (L') 200 := by
  have hw : IntKind.i64.wrap ((i : Int) + 1) = ((i + 1 : Nat) : Int) := by rw [wr64 (by omega)]; rfl
  have hw1 : IntKind.i64.wrap ((N : Int) - 1) = (N : Int) - 1 := wr64 (by omega)
  refine runs_more baseO (More.of (enL_p0 N M B raw o i c) ⟨?oo, rfl, ?rr⟩) (by kernel_rfl) (by kernel_rfl) rfl (gtL (by decide)) (by decide) next
  case oo =>
    clear next
    refine (okc ?_ (okc ?_ (okc ?_ (okc ?_ (okc ?_ (okc ?_ (okc ?_ (okc ?_ (okc ?_ (okc ?_ (okc ?_ (okc ?_ (okc ?_ okn)))))))))))))
    all_goals ((try simp (disch := omega) only [SS, hw, hw1, hb]); first | done | omega | assumption | (simp (disch := omega) only [SS, hw, hw1, hb] at *; first | done | omega | assumption) | (simp_all; done))
  case rr =>
    clear next
    simp (disch := omega) only [SS, hw, hw1, hb, Go.Sx.sum, List.length_append, List.length_cons, List.length_nil, Nat.zero_add]
    repeat' apply And.intro
    all_goals first | exact True.intro | with_reducible rfl | omega | (intro k hk; exact app_byte1 o _ _ (by first | exact hb | (simpa [subIx] using hb) | (simp only [subIx, List.tail]; simp_all)) k hk) | (intro k hk; exact app_two o c 0 _ _ (by first | exact hb | (simpa [subIx] using hb) | (simp only [subIx, List.tail]; simp_all)) rfl k hk) | (simp_all; done)

theorem enX_p0 (N M : Nat) (B : Ix → Int) (raw : Bool) (o : List UInt8) (i : Nat) (c : UInt8) :
    isMore (evTill Tryd.prog [] 300 (behind Tryd.f36 0) 900 36 (headOf Tryd.f36 0) (envAt Tryd.f36.ntmps ([(0, vL 60 1 N), (1, vB raw), (5, vL 101 1 (o).length), (8, vL 60 1 N), (9, vN N), (10, vN (i : Nat))])) (rB 60 M B ++ (bW 101 (o))) ⟨[.s true, .s true, .s true, .s true, .t, .s true, .s true, .s true, .s true, .s false, .s true, .s true, .s true, .s true, .t, .s true, .s true], 120⟩) (moreP (headOf Tryd.f36 0) ([((101 : Nat), Rn.to (123 : Nat))]) Tryd.f36.ntmps ([(0, vL 60 1 N), (1, vB raw), (5, vL 101 1 (o ++ [c] ++ [0]).length), (8, vL 60 1 N), (9, vN N), (10, vN (i + 1 : Nat))]) (bW 101 (o ++ [c] ++ [0])) 200) =
    (OkL [(decide ((↑i : Int) < (↑N : Int)), true), (decide ((0 : Int) ≤ (↑i : Int) ∧ (↑i : Int) < (↑N : Int)), true), (((0 : Nat) + (↑i : Int).toNat).blt M, true), (((0 : Nat) + (↑i : Int).toNat).blt M, true), (((0 : Nat) + o.length).ble o.length, true), (decide (((2 : Nat) * (o.length + (1 : Nat)) + (192 : Nat)) * (1 : Nat) ≤ (281474976710656 : Nat)), true), (!raw, true), (B [(0 : Nat) + (↑i : Int).toNat] == (13 : Int), true), ((↑i : Int) == IntKind.i64.wrap ((↑N : Int) - (1 : Int)), false), (decide ((0 : Int) ≤ IntKind.i64.wrap ((↑i : Int) + (1 : Int)) ∧ IntKind.i64.wrap ((↑i : Int) + (1 : Int)) < (↑N : Int)), true), (((0 : Nat) + (IntKind.i64.wrap ((↑i : Int) + (1 : Int))).toNat).blt M, true), (((0 : Nat) + (IntKind.i64.wrap ((↑i : Int) + (1 : Int))).toNat).blt M, true), (B [(0 : Nat) + (IntKind.i64.wrap ((↑i : Int) + (1 : Int))).toNat] != (10 : Int), true), (((0 : Nat) + (o.length + (1 : Nat))).ble (o.length + (1 : Nat)), true), (decide (((2 : Nat) * (o.length + (1 : Nat) + (1 : Nat)) + (192 : Nat)) * (1 : Nat) ≤ (281474976710656 : Nat)), true)] ∧ headOf Tryd.f36 (0 : Nat) = headOf Tryd.f36 (0 : Nat) ∧ (((0 : Nat) = (0 : Nat) ∧ N = N) ∧ raw = raw ∧ ((0 : Nat) = (0 : Nat) ∧ (o ++ [c] ++ [(0 : UInt8)]).length = o.length + (1 : Nat) + (1 : Nat)) ∧ ((0 : Nat) = (0 : Nat) ∧ N = N) ∧ (↑N : Int) = (↑N : Int) ∧ (↑(i + (1 : Nat)) : Int) = IntKind.i64.wrap ((↑i : Int) + (1 : Int))) ∧ (o ++ [c] ++ [(0 : UInt8)]).length = o.length + (1 : Nat) + (1 : Nat) ∧ ∀ (i_1 : Nat), i_1 < (o ++ [c] ++ [(0 : UInt8)]).length → (↑((o ++ [c] ++ [(0 : UInt8)]).getD i_1 (0 : UInt8)).toNat : Int) = appF (o.length + (1 : Nat)) (0 : Nat) (appF o.length (0 : Nat) (fun is => (↑(o.getD (List.headD is (0 : Nat)) (0 : UInt8)).toNat : Int)) fun js => B (((0 : Nat) + (↑i : Int).toNat) :: List.tail (subIx (0 : Nat) js))) (fun js => (0 : Int)) [i_1]) := by kernel_rfl

set_option maxHeartbeats 4000000 in
theorem enX (N M : Nat) (B : Ix → Int) (raw : Bool) (o : List UInt8) (i : Nat) (c : UInt8) (hi : i < N) (hN : N ≤ 1000) (hM : N ≤ M) (ho : o.length ≤ 2 * i) (hb : B [i] = (c.toNat : Int)) (hr : raw = false) (h : c.toNat = 13) (h2 : i + 1 < N) (h3 : B [i + 1] ≠ 10)  (v : SV) (L' : HF) (next : RunsTo Tryd.prog 36 (headOf Tryd.f36 0) (envAt Tryd.f36.ntmps ([(0, vL 60 1 N), (1, vB raw), (5, vL 101 1 (o ++ [c] ++ [0]).length), (8, vL 60 1 N), (9, vN N), (10, vN (i + 1 : Nat))])) (Sx.look (rB 60 M B ++ (bW 101 (o ++ [c] ++ [0])))) 80 (v) (L') 200) :
    RunsTo Tryd.prog 36 (headOf Tryd.f36 0) (envAt Tryd.f36.ntmps ([(0, vL 60 1 N), (1, vB raw), (5, vL 101 1 (o).length), (8, vL 60 1 N), (9, vN N), (10, vN (i : Nat))])) (Sx.look (rB 60 M B ++ (bW 101 (o)))) 80 (v) (L') 200 := by
  have hw : IntKind.i64.wrap ((i : Int) + 1) = ((i + 1 : Nat) : Int) := by rw [wr64 (by omega)]; rfl
  have hw1 : IntKind.i64.wrap ((N : Int) - 1) = (N : Int) - 1 := wr64 (by omega)
  refine runs_more baseO (More.of (enX_p0 N M B raw o i c) ⟨?oo, rfl, ?rr⟩) (by kernel_rfl) (by kernel_rfl) rfl (gtL (by decide)) (by decide) next
  case oo =>
    clear next
    refine (okc ?_ (okc ?_ (okc ?_ (okc ?_ (okc ?_ (okc ?_ (okc ?_ (okc ?_ (okc ?_ (okc ?_ (okc ?_ (okc ?_ (okc ?_ (okc ?_ (okc ?_ okn)))))))))))))))
    all_goals ((try simp (disch := omega) only [SS, hw, hw1, hb]); first | done | omega | assumption | (simp (disch := omega) only [SS, hw, hw1, hb] at *; first | done | omega | assumption) | (simp_all; done))
  case rr =>
    clear next
    simp (disch := omega) only [SS, hw, hw1, hb, Go.Sx.sum, List.length_append, List.length_cons, List.length_nil, Nat.zero_add]
    repeat' apply And.intro
    all_goals first | exact True.intro | with_reducible rfl | omega | (intro k hk; exact app_byte1 o _ _ (by first | exact hb | (simpa [subIx] using hb) | (simp only [subIx, List.tail]; simp_all)) k hk) | (intro k hk; exact app_two o c 0 _ _ (by first | exact hb | (simpa [subIx] using hb) | (simp only [subIx, List.tail]; simp_all)) rfl k hk) | (simp_all; done)

theorem enE_p0 (N M : Nat) (B : Ix → Int) (raw : Bool) (o : List UInt8) (i : Nat) (c : UInt8) :
    isMore (evTill Tryd.prog [] 300 (behind Tryd.f36 0) 900 36 (headOf Tryd.f36 0) (envAt Tryd.f36.ntmps ([(0, vL 60 1 N), (1, vB raw), (5, vL 101 1 (o).length), (8, vL 60 1 N), (9, vN N), (10, vN (i : Nat))])) (rB 60 M B ++ (bW 101 (o))) ⟨[.s true, .s true, .s true, .s true, .t, .s true, .s true, .s true, .s true, .s true, .t, .s true, .s true], 120⟩) (moreP (headOf Tryd.f36 0) ([((101 : Nat), Rn.to (123 : Nat))]) Tryd.f36.ntmps ([(0, vL 60 1 N), (1, vB raw), (5, vL 101 1 (o ++ [c] ++ [0]).length), (8, vL 60 1 N), (9, vN N), (10, vN (i + 1 : Nat))]) (bW 101 (o ++ [c] ++ [0])) 200) =
    (OkL [(decide ((↑i : Int) < (↑N : Int)), true), (decide ((0 : Int) ≤ (↑i : Int) ∧ (↑i : Int) < (↑N : Int)), true), (((0 : Nat) + (↑i : Int).toNat).blt M, true), (((0 : Nat) + (↑i : Int).toNat).blt M, true), (((0 : Nat) + o.length).ble o.length, true), (decide (((2 : Nat) * (o.length + (1 : Nat)) + (192 : Nat)) * (1 : Nat) ≤ (281474976710656 : Nat)), true), (!raw, true), (B [(0 : Nat) + (↑i : Int).toNat] == (13 : Int), true), ((↑i : Int) == IntKind.i64.wrap ((↑N : Int) - (1 : Int)), true), (((0 : Nat) + (o.length + (1 : Nat))).ble (o.length + (1 : Nat)), true), (decide (((2 : Nat) * (o.length + (1 : Nat) + (1 : Nat)) + (192 : Nat)) * (1 : Nat) ≤ (281474976710656 : Nat)), true)] ∧ headOf Tryd.f36 (0 : Nat) = headOf Tryd.f36 (0 : Nat) ∧ (((0 : Nat) = (0 : Nat) ∧ N = N) ∧ raw = raw ∧ ((0 : Nat) = (0 : Nat) ∧ (o ++ [c] ++ [(0 : UInt8)]).length = o.length + (1 : Nat) + (1 : Nat)) ∧ ((0 : Nat) = (0 : Nat) ∧ N = N) ∧ (↑N : Int) = (↑N : Int) ∧ (↑(i + (1 : Nat)) : Int) = IntKind.i64.wrap ((↑i : Int) + (1 : Int))) ∧ (o ++ [c] ++ [(0 : UInt8)]).length = o.length + (1 : Nat) + (1 : Nat) ∧ ∀ (i_1 : Nat), i_1 < (o ++ [c] ++ [(0 : UInt8)]).length → (↑((o ++ [c] ++ [(0 : UInt8)]).getD i_1 (0 : UInt8)).toNat : Int) = appF (o.length + (1 : Nat)) (0 : Nat) (appF o.length (0 : Nat) (fun is => (↑(o.getD (List.headD is (0 : Nat)) (0 : UInt8)).toNat : Int)) fun js => B (((0 : Nat) + (↑i : Int).toNat) :: List.tail (subIx (0 : Nat) js))) (fun js => (0 : Int)) [i_1]) := by kernel_rfl

set_option maxHeartbeats 4000000 in
theorem enE (N M : Nat) (B : Ix → Int) (raw : Bool) (o : List UInt8) (i : Nat) (c : UInt8) (hi : i < N) (hN : N ≤ 1000) (hM : N ≤ M) (ho : o.length ≤ 2 * i) (hb : B [i] = (c.toNat : Int)) (hr : raw = false) (h : c.toNat = 13) (h2 : i + 1 = N)  (v : SV) (L' : HF) (next : RunsTo Tryd.prog 36 (headOf Tryd.f36 0) (envAt Tryd.f36.ntmps ([(0, vL 60 1 N), (1, vB raw), (5, vL 101 1 (o ++ [c] ++ [0]).length), (8, vL 60 1 N), (9, vN N), (10, vN (i + 1 : Nat))])) (Sx.look (rB 60 M B ++ (bW 101 (o ++ [c] ++ [0])))) 80 (v) (L') 200) :
    RunsTo Tryd.prog 36 (headOf Tryd.f36 0) (envAt Tryd.f36.ntmps ([(0, vL 60 1 N), (1, vB raw), (5, vL 101 1 (o).length), (8, vL 60 1 N), (9, vN N), (10, vN (i : Nat))])) (Sx.look (rB 60 M B ++ (bW 101 (o)))) 80 (v) (L') 200 := by
  have hw : IntKind.i64.wrap ((i : Int) + 1) = ((i + 1 : Nat) : Int) := by rw [wr64 (by omega)]; rfl
  have hw1 : IntKind.i64.wrap ((N : Int) - 1) = (N : Int) - 1 := wr64 (by omega)
  refine runs_more baseO (More.of (enE_p0 N M B raw o i c) ⟨?oo, rfl, ?rr⟩) (by kernel_rfl) (by kernel_rfl) rfl (gtL (by decide)) (by decide) next
  case oo =>
    clear next
    refine (okc ?_ (okc ?_ (okc ?_ (okc ?_ (okc ?_ (okc ?_ (okc ?_ (okc ?_ (okc ?_ (okc ?_ (okc ?_ okn)))))))))))
    all_goals ((try simp (disch := omega) only [SS, hw, hw1, hb]); first | done | omega | assumption | (simp (disch := omega) only [SS, hw, hw1, hb] at *; first | done | omega | assumption) | (simp_all; done))
  case rr =>
    clear next
    simp (disch := omega) only [SS, hw, hw1, hb, Go.Sx.sum, List.length_append, List.length_cons, List.length_nil, Nat.zero_add]
    repeat' apply And.intro
    all_goals first | exact True.intro | with_reducible rfl | omega | (intro k hk; exact app_byte1 o _ _ (by first | exact hb | (simpa [subIx] using hb) | (simp only [subIx, List.tail]; simp_all)) k hk) | (intro k hk; exact app_two o c 0 _ _ (by first | exact hb | (simpa [subIx] using hb) | (simp only [subIx, List.tail]; simp_all)) rfl k hk) | (simp_all; done)

theorem enEnd_p0 (N M : Nat) (B : Ix → Int) (raw : Bool) (o : List UInt8) (i : Nat) :
    isEnd (evTill Tryd.prog [] 300 (99) 900 36 (headOf Tryd.f36 0) (envAt Tryd.f36.ntmps ([(0, vL 60 1 N), (1, vB raw), (5, vL 101 1 (o).length), (8, vL 60 1 N), (9, vN N), (10, vN (i : Nat))])) (rB 60 M B ++ (bW 101 (o))) ⟨[.s false], 120⟩) (endP ([((141 : Nat), Rn.to (101 : Nat))]) (vL 141 1 o.length) (bW 141 o) 200) =
    (OkL [(decide ((↑i : Int) < (↑N : Int)), false)] ∧ ((0 : Nat) = (0 : Nat) ∧ o.length = o.length) ∧ o.length = o.length ∧ ∀ (i : Nat), i < o.length → (↑(o.getD i (0 : UInt8)).toNat : Int) = (↑(o.getD i (0 : UInt8)).toNat : Int)) := by kernel_rfl

set_option maxHeartbeats 4000000 in
theorem enEnd (N M : Nat) (B : Ix → Int) (raw : Bool) (o : List UInt8) (i : Nat) (hi : i = N)  :
    RunsTo Tryd.prog 36 (headOf Tryd.f36 0) (envAt Tryd.f36.ntmps ([(0, vL 60 1 N), (1, vB raw), (5, vL 101 1 (o).length), (8, vL 60 1 N), (9, vN N), (10, vN (i : Nat))])) (Sx.look (rB 60 M B ++ (bW 101 (o)))) 80 (vL 141 1 o.length) (Sx.look (bW 141 o)) 200 := by
  refine runs_last baseO (Sx.Ends.of (enEnd_p0 N M B raw o i) ⟨?oo, ?rr⟩) (by kernel_rfl) rfl (gtL (by decide)) (by decide)
  case oo =>
    refine (okc ?_ okn)
    all_goals ((try simp (disch := omega) only [SS]); first | done | omega | assumption | (simp (disch := omega) only [SS] at *; first | done | omega | assumption) | (simp_all; done))
  case rr =>
    try simp (disch := omega) only [SS]
    repeat' apply And.intro
    all_goals first | exact True.intro | with_reducible rfl | omega | (intros; first | exact True.intro | with_reducible rfl | omega | (simp_all; done)) | (simp_all; done) | rfl

theorem enLoop (N M : Nat) (B : Ix → Int) (raw : Bool) (bs : List UInt8) (hN : N ≤ 1000) (hM : N ≤ M) (hlen : bs.length = N) (hB : ∀ i, i < N → B [i] = ((bs.getD i 0).toNat : Int)) :
    ∀ (k i : Nat) (o : List UInt8), i + k = N → o.length ≤ 2 * i → RunsTo Tryd.prog 36 (headOf Tryd.f36 0) (envAt Tryd.f36.ntmps ([(0, vL 60 1 N), (1, vB raw), (5, vL 101 1 (o).length), (8, vL 60 1 N), (9, vN N), (10, vN (i : Nat))])) (Sx.look (rB 60 M B ++ (bW 101 (o)))) 80 (vL 141 1 ((o ++ encL raw (bs.drop i))).length) (Sx.look (bW 141 ((o ++ encL raw (bs.drop i))))) 200 := by
  intro k
  induction k with
  | zero =>
    intro i o hi ho
    rw [show bs.drop i = [] from List.drop_eq_nil_of_le (by omega)]
    simp only [encL, List.append_nil]
    exact enEnd N M B raw o i (by omega)
  | succ k ih =>
    intro i o hi ho
    have hi' : i < N := by omega
    have hd : bs.drop i = bs.getD i 0 :: bs.drop (i + 1) := by
      rw [List.drop_eq_getElem_cons (by omega), List.getD_eq_getElem?_getD, List.getElem?_eq_getElem (by omega), Option.getD_some]
    have hh : (bs.drop (i + 1)).headD 0 = bs.getD (i + 1) 0 := by
      rw [List.headD_eq_head?_getD, List.head?_drop, List.getD_eq_getElem?_getD]
    have hb := hB i hi'
    rw [hd]
    generalize bs.getD i 0 = c at hb
    have one : ∀ q : ¬ (raw = false ∧ c = 13 ∧ (bs.drop (i + 1)).headD 0 ≠ 10), encL raw (c :: bs.drop (i + 1)) = c :: encL raw (bs.drop (i + 1)) := fun q => by rw [encL, if_neg q]
    have lo : (o ++ [c]).length ≤ 2 * (i + 1) := by simp; omega
    have lo2 : (o ++ [c] ++ [0]).length ≤ 2 * (i + 1) := by simp; omega
    cases raw with
    | true =>
      rw [one (by simp), List.append_cons]
      exact enR N M B true o i c hi' hN hM ho hb rfl _ _ (ih (i + 1) _ (by omega) lo)
    | false =>
      by_cases h : c.toNat = 13
      · have hc : c = 13 := UInt8.toNat_inj.1 h
        have two : ∀ q : (bs.drop (i + 1)).headD 0 ≠ 10, o ++ encL false (c :: bs.drop (i + 1)) = o ++ [c] ++ [0] ++ encL false (bs.drop (i + 1)) := fun q => by rw [encL, if_pos ⟨rfl, hc, q⟩, hc]; simp
        by_cases h2 : i + 1 = N
        · have h0 : (bs.drop (i + 1)).headD 0 = 0 := by rw [List.drop_eq_nil_of_le (by omega)]; rfl
          rw [two (by rw [h0]; decide)]
          exact enE N M B false o i c hi' hN hM ho hb rfl h h2 _ _ (ih (i + 1) _ (by omega) lo2)
        · have h2' : i + 1 < N := by omega
          have hb2 := hB (i + 1) h2'
          by_cases h3 : B [i + 1] = 10
          · rw [one (fun q => q.2.2 (by rw [hh]; apply UInt8.toNat_inj.1; have : ((10 : UInt8).toNat : Int) = 10 := rfl; omega)), List.append_cons]
            exact enL N M B false o i c hi' hN hM ho hb rfl h h2' h3 _ _ (ih (i + 1) _ (by omega) lo)
          · rw [two (by rw [hh]; intro e; rw [e] at hb2; exact h3 (by rw [hb2]; rfl))]
            exact enX N M B false o i c hi' hN hM ho hb rfl h h2' h3 _ _ (ih (i + 1) _ (by omega) lo2)
      · rw [one (fun q => h (by rw [q.2.1]; rfl)), List.append_cons]
        exact enO N M B false o i c hi' hN hM ho hb rfl h _ _ (ih (i + 1) _ (by omega) lo)
theorem enI (N M : Nat) (B : Ix → Int) (raw : Bool) (hN : N ≤ 1000) (hM : N ≤ M) (hB : bndB B N = true) : RunsTo Tryd.prog 36 [.code (bodyOf Tryd.f36)] (envOf [vL 60 1 N, vB raw] Tryd.f36.ntmps) (Sx.look (rB 60 M B ++ ([]))) 80 (vL 141 1 (enB N B raw).length) (Sx.look (bW 141 (enB N B raw))) 200 := by
  have q := enLoop N M B raw (bytesOf B [] 0 N) hN hM (bytesOf_len _ _ _ _) (fun i hi => by have h0 := bndB_ok hB hi; have := bytesOf_nat (B := B) (is := []) (st := 0) (n := N) hi (by simpa using h0); simpa using this.symm) N 0 [] (by omega) (by simp)
  rw [List.drop_zero, List.nil_append] at q
  show RunsTo Tryd.prog 36 [.code (bodyOf Tryd.f36)] (envOf [vL 60 1 N, vB raw] Tryd.f36.ntmps) (Sx.look (rB 60 M B ++ ([]))) 80 (vL 141 1 (encL raw (bytesOf B [] 0 N)).length) (Sx.look (bW 141 (encL raw (bytesOf B [] 0 N)))) 200
  exact enStart N M B raw _ _ q
def enP : PC := { args := [.v (.vl 60 1 0), .v (.vb 4)], heap := [⟨60, false, 1, .ta 9 (.vi .u8 1)⟩], gs := [], G := 19, tp := 144, n := 80, n' := 200, cond := fun e => decide (eN e 0 ≤ 1000) && (decide (eN e 0 ≤ eN e 9) && bndB (eI e 1) (eN e 0)), v := fun e => vL 141 1 (enB (eN e 0) (eI e 1) (eB e 4 [])).length, post := fun e => bW 141 (enB (eN e 0) (eI e 1) (eB e 4 [])) }
theorem enP_pc : PC.Runs Tryd.prog 36 Tryd.f36 (bodyOf Tryd.f36) enP := ⟨Tryd.func36, by kernel_rfl, (fun g hg => by first | (cases hg; done) | (revert g; show ∀ g ∈ ([] : List Nat), g < 19; decide)), fun e H hc => by
  have hc : (decide (eN e 0 ≤ 1000) && (decide (eN e 0 ≤ eN e 9) && bndB (eI e 1) (eN e 0))) = true := hc
  try simp only [Bool.and_eq_true, decide_eq_true_eq, Nat.beq_eq] at hc
  exact enI (eN e 0) (eN e 9) (eI e 1) (eB e 4 []) hc.1 hc.2.1 hc.2.2⟩
def enPm : PC := { args := [.v (.vm 60 1 0), .v (.vb 4)], heap := [⟨60, false, 1, .ta 9 (.vi .u8 1)⟩], gs := [], G := 19, tp := 144, n := 80, n' := 200, cond := fun e => decide (eN e 0 ≤ 1000) && (decide (eN e 0 ≤ eN e 9) && bndB (eI e 1) (eN e 0)), v := fun e => vL 141 1 (enB (eN e 0) (eI e 1) (eB e 4 [])).length, post := fun e => bW 141 (enB (eN e 0) (eI e 1) (eB e 4 [])) }
theorem enPm_pc : PC.Runs Tryd.prog 36 Tryd.f36 (bodyOf Tryd.f36) enPm := ⟨Tryd.func36, by kernel_rfl, (fun g hg => by first | (cases hg; done) | (revert g; show ∀ g ∈ ([] : List Nat), g < 19; decide)), fun e H hc => by
  have hc : (decide (eN e 0 ≤ 1000) && (decide (eN e 0 ≤ eN e 9) && bndB (eI e 1) (eN e 0))) = true := hc
  try simp only [Bool.and_eq_true, decide_eq_true_eq, Nat.beq_eq] at hc
  exact enI (eN e 0) (eN e 9) (eI e 1) (eB e 4 []) hc.1 hc.2.1 hc.2.2⟩
def sumsDA : List (FuncId × Summ) := [(34, kaP.summ 38)]
theorem baseDA : Base0 Tryd.prog sumsDA := (baseO.cons Tryd.func34 (by kernel_rfl) (PC.summ_ok kaP_pc gtopG))
theorem daStart_p0 (N M : Nat) (B : Ix → Int) (raw : Bool) :
    isMore (evTill Tryd.prog sumsDA 300 (behind Tryd.f37 0) 900 37 [.code (bodyOf Tryd.f37)] (envOf [vL 60 1 N, .v .vl0, vB raw] Tryd.f37.ntmps) (rB 60 M B ++ ([])) ⟨[.s true], 80⟩) (moreP (headOf Tryd.f37 0) ([((104 : Nat), Rn.nil (1 : Nat))]) Tryd.f37.ntmps ([(7, vL 104 1 (([] : List UInt8)).length), (13, vL 102 5 ((kaF N B raw)).length), (14, vN ((kaF N B raw)).length), (15, vN (0 : Nat))]) (toK 102 103 ((kaF N B raw)) ++ bW 104 (([] : List UInt8))) 600) =
    (OkL [(decide (N ≤ (400000 : Nat)) && (decide (N ≤ M) && bndB B N), true)] ∧ headOf Tryd.f37 (0 : Nat) = headOf Tryd.f37 (0 : Nat) ∧ ((0 : Nat) = (0 : Nat) ∧ ((0 : Nat) = (0 : Nat) ∧ (kaF N B raw).length = (kaF N B raw).length) ∧ (↑(kaF N B raw).length : Int) = (↑(kaF N B raw).length : Int) ∧ (↑(0 : Nat) : Int) = (0 : Int)) ∧ ((kaF N B raw).length = (kaF N B raw).length ∧ (∀ (i : Nat), i < (kaF N B raw).length → kK (kaF N B raw) [i] = kK (kaF N B raw) [i]) ∧ (∀ (i : Nat), i < (kaF N B raw).length → kC (kaF N B raw) [i] = kC (kaF N B raw) [i]) ∧ (∀ (i : Nat), i < (kaF N B raw).length → kO (kaF N B raw) [i] = kO (kaF N B raw) [i]) ∧ ((∀ (i : Nat), i < (kaF N B raw).length → kM (kaF N B raw) [i] = kM (kaF N B raw) [i]) ∧ ∀ (i : Nat), i < (kaF N B raw).length → kL (kaF N B raw) [i] = kL (kaF N B raw) [i]) ∧ ∀ (i : Nat), i < (kaF N B raw).length → kU (kaF N B raw) [i] = kU (kaF N B raw) [i]) ∧ ((kaF N B raw).length = (kaF N B raw).length ∧ ∀ (m : Nat), m < (kaF N B raw).length → gL (kaF N B raw) m = gL (kaF N B raw) m ∧ ∀ (i : Nat), i < gL (kaF N B raw) m → gB (kaF N B raw) [m, i] = gB (kaF N B raw) [m, i]) ∧ (0 : Nat) = (0 : Nat)) := by kernel_rfl

set_option maxHeartbeats 4000000 in
theorem daStart (N M : Nat) (B : Ix → Int) (raw : Bool) (hN : N ≤ 400000) (hM : N ≤ M) (hB : bndB B N = true)  (v : SV) (L' : HF) (next : RunsTo Tryd.prog 37 (headOf Tryd.f37 0) (envAt Tryd.f37.ntmps ([(7, vL 104 1 (([] : List UInt8)).length), (13, vL 102 5 ((kaF N B raw)).length), (14, vN ((kaF N B raw)).length), (15, vN (0 : Nat))])) (Sx.look (rB 60 M B ++ (toK 102 103 ((kaF N B raw)) ++ bW 104 (([] : List UInt8))))) 80 (v) (L') 600) :
    RunsTo Tryd.prog 37 [.code (bodyOf Tryd.f37)] (envOf [vL 60 1 N, .v .vl0, vB raw] Tryd.f37.ntmps) (Sx.look (rB 60 M B ++ ([]))) 80 (v) (L') 600 := by
  refine runs_more baseDA (More.of (daStart_p0 N M B raw) ⟨?oo, rfl, ?rr⟩) (by kernel_rfl) (by kernel_rfl) rfl (gtL (by decide)) (by decide) next
  case oo =>
    clear next
    refine (okc ?_ okn)
    all_goals ((try simp (disch := omega) only [SS]); first | done | omega | assumption | (simp (disch := omega) only [SS] at *; first | done | omega | assumption) | (simp_all; done))
  case rr =>
    clear next
    try simp (disch := omega) only [SS]
    repeat' apply And.intro
    all_goals first | exact True.intro | with_reducible rfl | omega | (intros; first | exact True.intro | with_reducible rfl | omega | (simp_all; done)) | (simp_all; done) | rfl

theorem daY_p0 (N M : Nat) (B : Ix → Int) (raw : Bool) (T : List Tk) (o : List UInt8) (i : Nat) :
    isMore (evTill Tryd.prog sumsDA 300 (behind Tryd.f37 0) 900 37 (headOf Tryd.f37 0) (envAt Tryd.f37.ntmps ([(7, vL 104 1 (o).length), (13, vL 102 5 (T).length), (14, vN (T).length), (15, vN (i : Nat))])) (rB 60 M B ++ (toK 102 103 (T) ++ bW 104 (o))) ⟨[.s true, .s true, .s true, .s true, .s true, .t, .s true, .s true], 130⟩) (moreP (headOf Tryd.f37 0) ([((104 : Nat), Rn.to (132 : Nat))]) Tryd.f37.ntmps ([(7, vL 104 1 (o ++ [UInt8.ofNat (T.getD i kz).code]).length), (13, vL 102 5 (T).length), (14, vN (T).length), (15, vN (i + 1 : Nat))]) (toK 102 103 (T) ++ bW 104 (o ++ [UInt8.ofNat (T.getD i kz).code])) 600) =
    (OkL [(decide ((↑i : Int) < (↑T.length : Int)), true), (decide ((0 : Int) ≤ (↑i : Int) ∧ (↑i : Int) < (↑T.length : Int)), true), (((0 : Nat) + (↑i : Int).toNat).blt T.length, true), (((0 : Nat) + (↑i : Int).toNat).blt T.length, true), (kK T [(0 : Nat) + (↑i : Int).toNat] == (1 : Int), true), (((0 : Nat) + o.length).ble o.length, true), (decide (((2 : Nat) * (o.length + (1 : Nat)) + (192 : Nat)) * (1 : Nat) ≤ (281474976710656 : Nat)), true)] ∧ headOf Tryd.f37 (0 : Nat) = headOf Tryd.f37 (0 : Nat) ∧ (((0 : Nat) = (0 : Nat) ∧ (o ++ [UInt8.ofNat (T.getD i kz).2]).length = o.length + (1 : Nat)) ∧ ((0 : Nat) = (0 : Nat) ∧ T.length = T.length) ∧ (↑T.length : Int) = (↑T.length : Int) ∧ (↑(i + (1 : Nat)) : Int) = IntKind.i64.wrap ((↑i : Int) + (1 : Int))) ∧ (T.length = T.length ∧ (∀ (i : Nat), i < T.length → kK T [i] = kK T [i]) ∧ (∀ (i : Nat), i < T.length → kC T [i] = kC T [i]) ∧ (∀ (i : Nat), i < T.length → kO T [i] = kO T [i]) ∧ ((∀ (i : Nat), i < T.length → kM T [i] = kM T [i]) ∧ ∀ (i : Nat), i < T.length → kL T [i] = kL T [i]) ∧ ∀ (i : Nat), i < T.length → kU T [i] = kU T [i]) ∧ (T.length = T.length ∧ ∀ (m : Nat), m < T.length → gL T m = gL T m ∧ ∀ (i : Nat), i < gL T m → gB T [m, i] = gB T [m, i]) ∧ (o ++ [UInt8.ofNat (T.getD i kz).2]).length = o.length + (1 : Nat) ∧ ∀ (i_1 : Nat), i_1 < (o ++ [UInt8.ofNat (T.getD i kz).2]).length → (↑((o ++ [UInt8.ofNat (T.getD i kz).2]).getD i_1 (0 : UInt8)).toNat : Int) = appF o.length (0 : Nat) (fun is => (↑(o.getD (List.headD is (0 : Nat)) (0 : UInt8)).toNat : Int)) (fun js => IntKind.u8.wrap (kC T [(0 : Nat) + (↑i : Int).toNat])) [i_1]) := by kernel_rfl

set_option maxHeartbeats 4000000 in
theorem daY (N M : Nat) (B : Ix → Int) (raw : Bool) (T : List Tk) (o : List UInt8) (i : Nat) (hi : i < T.length) (hT : T.length ≤ 400000) (ho : o.length ≤ 400000) (h : (T.getD i kz).kind = 1)  (v : SV) (L' : HF) (next : RunsTo Tryd.prog 37 (headOf Tryd.f37 0) (envAt Tryd.f37.ntmps ([(7, vL 104 1 (o ++ [UInt8.ofNat (T.getD i kz).code]).length), (13, vL 102 5 (T).length), (14, vN (T).length), (15, vN (i + 1 : Nat))])) (Sx.look (rB 60 M B ++ (toK 102 103 (T) ++ bW 104 (o ++ [UInt8.ofNat (T.getD i kz).code])))) 80 (v) (L') 600) :
    RunsTo Tryd.prog 37 (headOf Tryd.f37 0) (envAt Tryd.f37.ntmps ([(7, vL 104 1 (o).length), (13, vL 102 5 (T).length), (14, vN (T).length), (15, vN (i : Nat))])) (Sx.look (rB 60 M B ++ (toK 102 103 (T) ++ bW 104 (o)))) 80 (v) (L') 600 := by
  have hw : IntKind.i64.wrap ((i : Int) + 1) = ((i + 1 : Nat) : Int) := by rw [wr64 (by omega)]; rfl
  have kt : kK T [i] = ((T.getD i kz).kind : Int) := rfl
  have ct : kC T [i] = ((T.getD i kz).code : Int) := rfl
  have hu : IntKind.u8.wrap (kC T [i]) = ((UInt8.ofNat (T.getD i kz).code).toNat : Int) := by rw [ct]; exact u8wA _
  refine runs_more baseDA (More.of (daY_p0 N M B raw T o i) ⟨?oo, rfl, ?rr⟩) (by kernel_rfl) (by kernel_rfl) rfl (gtL (by decide)) (by decide) next
  case oo =>
    clear next
    refine (okc ?_ (okc ?_ (okc ?_ (okc ?_ (okc ?_ (okc ?_ (okc ?_ okn)))))))
    all_goals ((try simp (disch := omega) only [SS, hw, Go.Sx.sum, Nat.zero_add, kt, h]); first | done | omega | assumption | (simp (disch := omega) only [SS, hw, Go.Sx.sum, Nat.zero_add, kt, h] at *; first | done | omega | assumption) | (simp_all; done))
  case rr =>
    clear next
    simp (disch := omega) only [SS, hw, hu, Go.Sx.sum, List.length_append, List.length_cons, List.length_nil, Nat.zero_add]
    repeat' apply And.intro
    all_goals first | exact True.intro | with_reducible rfl | omega | exact app_byte1 o _ _ hu | exact app_byte1 o _ _ (by first | rfl | (simp_all; done)) | (simp_all; done)

theorem daN_p0 (N M : Nat) (B : Ix → Int) (raw : Bool) (T : List Tk) (o : List UInt8) (i : Nat) :
    isMore (evTill Tryd.prog sumsDA 300 (behind Tryd.f37 0) 900 37 (headOf Tryd.f37 0) (envAt Tryd.f37.ntmps ([(7, vL 104 1 (o).length), (13, vL 102 5 (T).length), (14, vN (T).length), (15, vN (i : Nat))])) (rB 60 M B ++ (toK 102 103 (T) ++ bW 104 (o))) ⟨[.s true, .s true, .s true, .s true, .s false], 130⟩) (moreP (headOf Tryd.f37 0) ([]) Tryd.f37.ntmps ([(7, vL 104 1 (o).length), (13, vL 102 5 (T).length), (14, vN (T).length), (15, vN (i + 1 : Nat))]) (toK 102 103 (T) ++ bW 104 (o)) 600) =
    (OkL [(decide ((↑i : Int) < (↑T.length : Int)), true), (decide ((0 : Int) ≤ (↑i : Int) ∧ (↑i : Int) < (↑T.length : Int)), true), (((0 : Nat) + (↑i : Int).toNat).blt T.length, true), (((0 : Nat) + (↑i : Int).toNat).blt T.length, true), (kK T [(0 : Nat) + (↑i : Int).toNat] == (1 : Int), false)] ∧ headOf Tryd.f37 (0 : Nat) = headOf Tryd.f37 (0 : Nat) ∧ (((0 : Nat) = (0 : Nat) ∧ o.length = o.length) ∧ ((0 : Nat) = (0 : Nat) ∧ T.length = T.length) ∧ (↑T.length : Int) = (↑T.length : Int) ∧ (↑(i + (1 : Nat)) : Int) = IntKind.i64.wrap ((↑i : Int) + (1 : Int))) ∧ (T.length = T.length ∧ (∀ (i : Nat), i < T.length → kK T [i] = kK T [i]) ∧ (∀ (i : Nat), i < T.length → kC T [i] = kC T [i]) ∧ (∀ (i : Nat), i < T.length → kO T [i] = kO T [i]) ∧ ((∀ (i : Nat), i < T.length → kM T [i] = kM T [i]) ∧ ∀ (i : Nat), i < T.length → kL T [i] = kL T [i]) ∧ ∀ (i : Nat), i < T.length → kU T [i] = kU T [i]) ∧ (T.length = T.length ∧ ∀ (m : Nat), m < T.length → gL T m = gL T m ∧ ∀ (i : Nat), i < gL T m → gB T [m, i] = gB T [m, i]) ∧ o.length = o.length ∧ ∀ (i : Nat), i < o.length → (↑(o.getD i (0 : UInt8)).toNat : Int) = (↑(o.getD i (0 : UInt8)).toNat : Int)) := by kernel_rfl

set_option maxHeartbeats 4000000 in
theorem daN (N M : Nat) (B : Ix → Int) (raw : Bool) (T : List Tk) (o : List UInt8) (i : Nat) (hi : i < T.length) (hT : T.length ≤ 400000) (ho : o.length ≤ 400000) (h : (T.getD i kz).kind ≠ 1)  (v : SV) (L' : HF) (next : RunsTo Tryd.prog 37 (headOf Tryd.f37 0) (envAt Tryd.f37.ntmps ([(7, vL 104 1 (o).length), (13, vL 102 5 (T).length), (14, vN (T).length), (15, vN (i + 1 : Nat))])) (Sx.look (rB 60 M B ++ (toK 102 103 (T) ++ bW 104 (o)))) 80 (v) (L') 600) :
    RunsTo Tryd.prog 37 (headOf Tryd.f37 0) (envAt Tryd.f37.ntmps ([(7, vL 104 1 (o).length), (13, vL 102 5 (T).length), (14, vN (T).length), (15, vN (i : Nat))])) (Sx.look (rB 60 M B ++ (toK 102 103 (T) ++ bW 104 (o)))) 80 (v) (L') 600 := by
  have hw : IntKind.i64.wrap ((i : Int) + 1) = ((i + 1 : Nat) : Int) := by rw [wr64 (by omega)]; rfl
  have kt : kK T [i] = ((T.getD i kz).kind : Int) := rfl
  have ct : kC T [i] = ((T.getD i kz).code : Int) := rfl
  refine runs_more baseDA (More.of (daN_p0 N M B raw T o i) ⟨?oo, rfl, ?rr⟩) (by kernel_rfl) (by kernel_rfl) rfl (gtL (by decide)) (by decide) next
  case oo =>
    clear next
    refine (okc ?_ (okc ?_ (okc ?_ (okc ?_ (okc ?_ okn)))))
    all_goals ((try simp (disch := omega) only [SS, hw, Go.Sx.sum, Nat.zero_add, kt]); first | done | omega | assumption | (simp (disch := omega) only [SS, hw, Go.Sx.sum, Nat.zero_add, kt] at *; first | done | omega | assumption) | (simp_all; done))
  case rr =>
    clear next
    try simp (disch := omega) only [SS, hw, Go.Sx.sum, Nat.zero_add, kt]
    repeat' apply And.intro
    all_goals first | exact True.intro | with_reducible rfl | omega | (intros; first | exact True.intro | with_reducible rfl | omega | (simp_all; done)) | (simp_all; done) | rfl

theorem daEnd_p0 (N M : Nat) (B : Ix → Int) (raw : Bool) (T : List Tk) (o : List UInt8) (i : Nat) :
    isEnd (evTill Tryd.prog sumsDA 300 (99) 900 37 (headOf Tryd.f37 0) (envAt Tryd.f37.ntmps ([(7, vL 104 1 (o).length), (13, vL 102 5 (T).length), (14, vN (T).length), (15, vN (i : Nat))])) (rB 60 M B ++ (toK 102 103 (T) ++ bW 104 (o))) ⟨[.s false], 130⟩) (endP ([((141 : Nat), Rn.to (104 : Nat))]) (vL 141 1 o.length) (bW 141 o) 600) =
    (OkL [(decide ((↑i : Int) < (↑T.length : Int)), false)] ∧ ((0 : Nat) = (0 : Nat) ∧ o.length = o.length) ∧ o.length = o.length ∧ ∀ (i : Nat), i < o.length → (↑(o.getD i (0 : UInt8)).toNat : Int) = (↑(o.getD i (0 : UInt8)).toNat : Int)) := by kernel_rfl

set_option maxHeartbeats 4000000 in
theorem daEnd (N M : Nat) (B : Ix → Int) (raw : Bool) (T : List Tk) (o : List UInt8) (i : Nat) (hi : i = T.length)  :
    RunsTo Tryd.prog 37 (headOf Tryd.f37 0) (envAt Tryd.f37.ntmps ([(7, vL 104 1 (o).length), (13, vL 102 5 (T).length), (14, vN (T).length), (15, vN (i : Nat))])) (Sx.look (rB 60 M B ++ (toK 102 103 (T) ++ bW 104 (o)))) 80 (vL 141 1 o.length) (Sx.look (bW 141 o)) 600 := by
  refine runs_last baseDA (Sx.Ends.of (daEnd_p0 N M B raw T o i) ⟨?oo, ?rr⟩) (by kernel_rfl) rfl (gtL (by decide)) (by decide)
  case oo =>
    refine (okc ?_ okn)
    all_goals ((try simp (disch := omega) only [SS]); first | done | omega | assumption | (simp (disch := omega) only [SS] at *; first | done | omega | assumption) | (simp_all; done))
  case rr =>
    try simp (disch := omega) only [SS]
    repeat' apply And.intro
    all_goals first | exact True.intro | with_reducible rfl | omega | (intros; first | exact True.intro | with_reducible rfl | omega | (simp_all; done)) | (simp_all; done) | rfl

theorem dataK_len : ∀ T : List Tk, (dataK T).length ≤ T.length
  | [] => Nat.le_refl _
  | t :: r => by
    have := dataK_len r
    simp only [dataK]; split <;> simp only [List.length_cons] <;> omega
theorem cleanK_len (raw : Bool) : ∀ (bs : List UInt8) (m : Mc) (bh : Bool), (cleanK raw m bh bs).length ≤ bs.length
  | [], m, bh => Nat.le_refl _
  | c :: r, m, bh => by
    cases hz : feedC m c with
    | mk m' x =>
      cases x with
      | none => rw [cK_n hz]; have := cleanK_len raw r m' bh; simp only [List.length_cons]; omega
      | some t =>
        by_cases k : t.kind = 1
        · cases hs : (raw || (t.code != 0 || !bh)) with
          | true => rw [cK_d hz k hs]; have := cleanK_len raw r m' (!raw && t.code == 13); simp only [List.length_cons]; omega
          | false => rw [cK_g hz k hs]; have := cleanK_len raw r m' false; simp only [List.length_cons]; omega
        · rw [cK_o hz k]; have := cleanK_len raw r m' bh; simp only [List.length_cons]; omega
theorem daLoop (N M : Nat) (B : Ix → Int) (raw : Bool) (T : List Tk) (hT : T.length ≤ 400000) : ∀ (k i : Nat) (o : List UInt8), i + k = T.length → o.length ≤ i → RunsTo Tryd.prog 37 (headOf Tryd.f37 0) (envAt Tryd.f37.ntmps ([(7, vL 104 1 (o).length), (13, vL 102 5 (T).length), (14, vN (T).length), (15, vN (i : Nat))])) (Sx.look (rB 60 M B ++ (toK 102 103 (T) ++ bW 104 (o)))) 80 (vL 141 1 ((o ++ dataK (T.drop i))).length) (Sx.look (bW 141 ((o ++ dataK (T.drop i))))) 600 := by
  intro k
  induction k with
  | zero =>
    intro i o hi ho
    rw [show T.drop i = [] from List.drop_eq_nil_of_le (by omega)]
    simp only [dataK, List.append_nil]
    exact daEnd N M B raw T o i (by omega)
  | succ k ih =>
    intro i o hi ho
    have hd : T.drop i = T.getD i kz :: T.drop (i + 1) := by
      rw [List.drop_eq_getElem_cons (by omega), List.getD_eq_getElem?_getD, List.getElem?_eq_getElem (by omega), Option.getD_some]
    rw [hd]
    by_cases h : (T.getD i kz).kind = 1
    · simp only [dataK, if_pos h]
      rw [List.append_cons]
      exact daY N M B raw T o i (by omega) hT (by omega) h _ _ (ih (i + 1) _ (by omega) (by simp; omega))
    · simp only [dataK, if_neg h]
      exact daN N M B raw T o i (by omega) hT (by omega) h _ _ (ih (i + 1) _ (by omega) (by omega))
theorem daI (N M : Nat) (B : Ix → Int) (raw : Bool) (hN : N ≤ 400000) (hM : N ≤ M) (hB : bndB B N = true) : RunsTo Tryd.prog 37 [.code (bodyOf Tryd.f37)] (envOf [vL 60 1 N, .v .vl0, vB raw] Tryd.f37.ntmps) (Sx.look (rB 60 M B ++ ([]))) 80 (vL 141 1 (daB N B raw).length) (Sx.look (bW 141 (daB N B raw))) 600 := by
  have hl : (kaF N B raw).length ≤ N := by have := cleanK_len raw (bytesOf B [] 0 N) Mc0 false; rw [bytesOf_len] at this; exact this
  have q := daLoop N M B raw (kaF N B raw) (by omega) (kaF N B raw).length 0 [] (by omega) (by simp)
  rw [List.drop_zero, List.nil_append] at q
  exact daStart N M B raw hN hM hB _ _ q
def daP : PC := { args := [.v (.vl 60 1 0), .v .vl0, .v (.vb 4)], heap := [⟨60, false, 1, .ta 9 (.vi .u8 1)⟩], gs := [], G := 19, tp := 144, n := 80, n' := 600, cond := fun e => decide (eN e 0 ≤ 400000) && (decide (eN e 0 ≤ eN e 9) && bndB (eI e 1) (eN e 0)), v := fun e => vL 141 1 (daB (eN e 0) (eI e 1) (eB e 4 [])).length, post := fun e => bW 141 (daB (eN e 0) (eI e 1) (eB e 4 [])) }
theorem daP_pc : PC.Runs Tryd.prog 37 Tryd.f37 (bodyOf Tryd.f37) daP := ⟨Tryd.func37, by kernel_rfl, (fun g hg => by first | (cases hg; done) | (revert g; show ∀ g ∈ ([] : List Nat), g < 19; decide)), fun e H hc => by
  have hc : (decide (eN e 0 ≤ 400000) && (decide (eN e 0 ≤ eN e 9) && bndB (eI e 1) (eN e 0))) = true := hc
  try simp only [Bool.and_eq_true, decide_eq_true_eq, Nat.beq_eq] at hc
  exact daI (eN e 0) (eN e 9) (eI e 1) (eB e 4 []) hc.1 hc.2.1 hc.2.2⟩
end Go.Proofs.YtcphocfnhekdaaaDoor

