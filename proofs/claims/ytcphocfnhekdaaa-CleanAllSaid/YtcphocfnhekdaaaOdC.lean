/- Cleaning: the document's tokens. -/
import Derived.Test.YtcphocfnhekdaaaOaC
set_option linter.unusedSimpArgs false
set_option linter.unusedVariables false
set_option maxRecDepth 100000
namespace Go.Proofs.Ytcphocfnhekdaaa
open Go.Sx

open CleanR
def dtT (k c o : Nat) (b : List UInt8) : Tr := .tc (.vi .i64 fun _ => (k : Int)) (.tc (.vi .i64 fun _ => (c : Int)) (.tc (.vi .i64 fun _ => (o : Int)) (.tc (.vs fun _ => b) (.tc (.vb fun _ => false) .t0))))
def zObj (p : Nat) : List Ent := [⟨p, true, none, 5, dtT 0 0 0 []⟩]
def nxV (r : Tok × Nat) : SV := .tup [(true, dtT r.1.kind r.1.code r.1.opt r.1.body), (false, .vi .i64 fun _ => (r.2 : Int))]
def tS (T : List Tok) : Ix → List UInt8 := fun is => (T.getD (is.headD 0) z0).body
def dE (l : Nat) (T : List Tok) : List Ent := [⟨l, true, none, 5, .ta T.length (.tc (.vi .i64 (tK T)) (.tc (.vi .i64 (tC T)) (.tc (.vi .i64 (tO T)) (.tc (.vs (tS T)) (.tc (.vb tU) .t0)))))⟩]
def lN (E : List Nat) : Ix → Int := fun is => ((E.getD (is.headD 0) 0 : Nat) : Int)
def nE (l : Nat) (E : List Nat) : List Ent := [⟨l, true, none, 1, .ta E.length (.vi .i64 (lN E))⟩]
def sb (s : List UInt8) (i : Nat) : Nat := (s.getD i 0).toNat
theorem slice1 (s : List UInt8) {i : Nat} (h : i < s.length) : List.drop i (List.take (i + 1) s) = [s.getD i 0] := by
  rw [List.drop_take, show i + 1 - i = 1 by omega, List.drop_eq_getElem_cons h, List.take_succ_cons, List.take_zero]
  simp [List.getD_eq_getElem?_getD, List.getElem?_eq_getElem h]
theorem sb_lt (s : List UInt8) (i : Nat) : sb s i < 256 := UInt8.toNat_lt _
theorem sb_def (s : List UInt8) (i : Nat) : (s.getD i 0).toNat = sb s i := rfl
theorem sb_eq {s : List UInt8} {i : Nat} {c : UInt8} (h : sb s i = c.toNat) : s.getD i 0 = c := UInt8.toNat_inj.1 h
theorem drop_at (bs : List UInt8) {i : Nat} (h : i < bs.length) : bs.drop i = bs.getD i 0 :: bs.drop (i + 1) := by
  rw [List.drop_eq_getElem_cons h]; simp [List.getD_eq_getElem?_getD, List.getElem?_eq_getElem h]
theorem tokA {β : Type} (f : Tok → β) (T : List Tok) (t : Tok) (g : Ix → β) (hg : g [0] = f t) : ∀ k, k < T.length + 1 → f ((T ++ [t]).getD k z0) = appF T.length 0 (fun is => f (T.getD (is.headD 0) z0)) g [k] := fun k hk =>
  app_get f z0 T [t] g (fun j hj => by
    have : j = 0 := by simp at hj; omega
    subst this; exact hg) k (by simpa using hk)
theorem tKA (T : List Tok) (t : Tok) (g : Ix → Int) (hg : g [0] = (t.kind : Int)) : ∀ k, k < T.length + 1 → tK (T ++ [t]) [k] = appF T.length 0 (tK T) g [k] := tokA (fun t => (t.kind : Int)) T t g hg
theorem tCA (T : List Tok) (t : Tok) (g : Ix → Int) (hg : g [0] = (t.code : Int)) : ∀ k, k < T.length + 1 → tC (T ++ [t]) [k] = appF T.length 0 (tC T) g [k] := tokA (fun t => (t.code : Int)) T t g hg
theorem tOA (T : List Tok) (t : Tok) (g : Ix → Int) (hg : g [0] = (t.opt : Int)) : ∀ k, k < T.length + 1 → tO (T ++ [t]) [k] = appF T.length 0 (tO T) g [k] := tokA (fun t => (t.opt : Int)) T t g hg
theorem tSA (T : List Tok) (t : Tok) (g : Ix → List UInt8) (hg : g [0] = t.body) : ∀ k, k < T.length + 1 → tS (T ++ [t]) [k] = appF T.length 0 (tS T) g [k] := tokA (fun t => t.body) T t g hg
theorem tUA (n : Nat) (f g : Ix → Bool) (hf : ∀ is, f is = false) (hg : ∀ is, g is = false) : ∀ k, tU [k] = appF n 0 f g [k] := fun k => by
  simp only [appF]; split <;> simp [hf, hg, tU]
theorem lNA (E : List Nat) (x : Nat) (g : Ix → Int) (hg : g [0] = (x : Int)) : ∀ k, k < E.length + 1 → lN (E ++ [x]) [k] = appF E.length 0 (lN E) g [k] := fun k hk =>
  app_get (fun n : Nat => (n : Int)) 0 E [x] g (fun j hj => by
    have : j = 0 := by simp at hj; omega
    subst this; exact hg) k (by simpa using hk)
theorem sbStart_p0 (s : List UInt8) :
    isMore (evTill Try.prog [] 300 (behind Try.f34 0) 900 34 [.code (bodyOf Try.f34)] (envOf [vS s] Try.f34.ntmps) ([] ++ ([])) ⟨[], 80⟩) (moreP (headOf Try.f34 0) ([((101 : Nat), Rn.to (80 : Nat))]) Try.f34.ntmps ([(0, vS s), (2, vP 101), (4, vS (([] : List UInt8))), (5, vN (3 : Nat))]) (zObj 101) 170) =
    (OkL [] ∧ headOf Try.f34 (0 : Nat) = headOf Try.f34 (0 : Nat) ∧ (s = s ∧ (0 : Nat) = (0 : Nat) ∧ ([] : List UInt8) = [] ∧ (↑(3 : Nat) : Int) = (3 : Int)) ∧ (↑(0 : Nat) : Int) = (0 : Int) ∧ (↑(0 : Nat) : Int) = (0 : Int) ∧ (↑(0 : Nat) : Int) = (0 : Int) ∧ ([] : List UInt8) = [] ∧ false = false) := by kernel_rfl

set_option maxHeartbeats 4000000 in
theorem sbStart (s : List UInt8)  (v : SV) (L' : HF) (next : RunsTo Try.prog 34 (headOf Try.f34 0) (envAt Try.f34.ntmps ([(0, vS s), (2, vP 101), (4, vS (([] : List UInt8))), (5, vN (3 : Nat))])) (Sx.look ([] ++ (zObj 101))) 80 (v) (L') 170) :
    RunsTo Try.prog 34 [.code (bodyOf Try.f34)] (envOf [vS s] Try.f34.ntmps) (Sx.look ([] ++ ([]))) 80 (v) (L') 170 := by
  refine runs_more baseO (More.of (sbStart_p0 s) ⟨?oo, rfl, ?rr⟩) (by kernel_rfl) (by kernel_rfl) rfl (gtL (by decide)) (by decide) next
  case oo =>
    clear next
    refine okn
    all_goals ((try simp (disch := omega) only [SS]); first | done | omega | assumption | (simp (disch := omega) only [SS] at *; first | done | omega | assumption) | (simp_all; done))
  case rr =>
    clear next
    try simp (disch := omega) only [SS]
    repeat' apply And.intro
    all_goals first | exact True.intro | with_reducible rfl | omega | (intros; first | exact True.intro | with_reducible rfl | omega | (simp_all; done)) | (simp_all; done) | rfl

theorem sbN_p0 (s b : List UInt8) (i : Nat) :
    isMore (evTill Try.prog [] 300 (behind Try.f34 0) 900 34 (headOf Try.f34 0) (envAt Try.f34.ntmps ([(0, vS s), (2, vP 101), (4, vS (b)), (5, vN (i : Nat))])) ([] ++ (zObj 101)) ⟨[.s true, .s true, .s true, .s true, .s true, .s true], 120⟩) (moreP (headOf Try.f34 0) ([]) Try.f34.ntmps ([(0, vS s), (2, vP 101), (4, vS (b ++ [s.getD i 0])), (5, vN (i + 1 : Nat))]) (zObj 101) 170) =
    (OkL [(decide ((↑i : Int) < (↑s.length : Int)), true), (decide ((0 : Int) ≤ (↑i : Int) ∧ (↑i : Int) < (↑s.length : Int)), true), ((↑(s.getD (↑i : Int).toNat (0 : UInt8)).toNat : Int) != (255 : Int), true), (decide ((0 : Int) ≤ IntKind.i64.wrap ((↑i : Int) + (1 : Int)) ∧ IntKind.i64.wrap ((↑i : Int) + (1 : Int)) ≤ (↑s.length : Int)), true), (decide ((0 : Int) ≤ (↑i : Int) ∧ (↑i : Int) ≤ IntKind.i64.wrap ((↑i : Int) + (1 : Int))), true), (decide (b.length + (List.drop (↑i : Int).toNat (List.take (IntKind.i64.wrap ((↑i : Int) + (1 : Int))).toNat s)).length ≤ (9223372036854775807 : Nat)), true)] ∧ headOf Try.f34 (0 : Nat) = headOf Try.f34 (0 : Nat) ∧ (s = s ∧ (0 : Nat) = (0 : Nat) ∧ b ++ [s.getD i (0 : UInt8)] = b ++ List.drop (↑i : Int).toNat (List.take (IntKind.i64.wrap ((↑i : Int) + (1 : Int))).toNat s) ∧ (↑(i + (1 : Nat)) : Int) = IntKind.i64.wrap ((↑i : Int) + (1 : Int))) ∧ (↑(0 : Nat) : Int) = (↑(0 : Nat) : Int) ∧ (↑(0 : Nat) : Int) = (↑(0 : Nat) : Int) ∧ (↑(0 : Nat) : Int) = (↑(0 : Nat) : Int) ∧ ([] : List UInt8) = [] ∧ false = false) := by kernel_rfl

set_option maxHeartbeats 4000000 in
theorem sbN (s b : List UInt8) (i : Nat) (h3 : 3 ≤ i) (hs : s.length ≤ 200) (hb : b.length ≤ i) (hi2 : i ≤ s.length) (hi : i < s.length) (h : sb s i ≠ 255)  (v : SV) (L' : HF) (next : RunsTo Try.prog 34 (headOf Try.f34 0) (envAt Try.f34.ntmps ([(0, vS s), (2, vP 101), (4, vS (b ++ [s.getD i 0])), (5, vN (i + 1 : Nat))])) (Sx.look ([] ++ (zObj 101))) 80 (v) (L') 170) :
    RunsTo Try.prog 34 (headOf Try.f34 0) (envAt Try.f34.ntmps ([(0, vS s), (2, vP 101), (4, vS (b)), (5, vN (i : Nat))])) (Sx.look ([] ++ (zObj 101))) 80 (v) (L') 170 := by
  have hw : IntKind.i64.wrap ((i : Int) + 1) = ((i + 1 : Nat) : Int) := by rw [wr64 (by omega)]; rfl
  have hw2 : IntKind.i64.wrap ((i : Int) + 2) = ((i + 2 : Nat) : Int) := by rw [wr64 (by omega)]; rfl
  have hm1 : IntKind.i64.wrap ((s.length : Int) - 1) = (s.length : Int) - 1 := wr64 (by omega)
  have q0 := sb_lt s i
  have q1 := sb_lt s (i + 1)
  have q2 := sb_lt s 2
  have u1 : IntKind.i64.wrap (sb s (i + 1) : Int) = (sb s (i + 1) : Int) := wr64 (by omega)
  have u2 : IntKind.i64.wrap (sb s 2 : Int) = (sb s 2 : Int) := wr64 (by omega)
  refine runs_more baseO (More.of (sbN_p0 s b i) ⟨?oo, rfl, ?rr⟩) (by kernel_rfl) (by kernel_rfl) rfl (gtL (by decide)) (by decide) next
  case oo =>
    clear next
    refine (okc ?_ (okc ?_ (okc ?_ (okc ?_ (okc ?_ (okc ?_ okn))))))
    all_goals ((try simp (disch := omega) only [SS, hw, hw2, hm1, u1, u2, sb_def, slice1, Go.Sx.sum, Int.toNat_natCast, List.length_append, List.length_cons, List.length_nil]); first | done | omega | assumption | (simp (disch := omega) only [SS, hw, hw2, hm1, u1, u2, sb_def, slice1, Go.Sx.sum, Int.toNat_natCast, List.length_append, List.length_cons, List.length_nil] at *; first | done | omega | assumption) | (simp_all; done))
  case rr =>
    clear next
    try simp (disch := omega) only [SS, hw, hw2, hm1, u1, u2, sb_def, slice1, Go.Sx.sum, Int.toNat_natCast, List.length_append, List.length_cons, List.length_nil]
    repeat' apply And.intro
    all_goals first | exact True.intro | with_reducible rfl | omega | (intros; first | exact True.intro | with_reducible rfl | omega | (simp_all; done)) | (simp_all; done) | rfl

theorem sbQ_p0 (s b : List UInt8) (i : Nat) :
    isMore (evTill Try.prog [] 300 (behind Try.f34 0) 900 34 (headOf Try.f34 0) (envAt Try.f34.ntmps ([(0, vS s), (2, vP 101), (4, vS (b)), (5, vN (i : Nat))])) ([] ++ (zObj 101)) ⟨[.s true, .s true, .s false, .s false, .s true, .s true, .s true], 120⟩) (moreP (headOf Try.f34 0) ([]) Try.f34.ntmps ([(0, vS s), (2, vP 101), (4, vS (b ++ [255])), (5, vN (i + 2 : Nat))]) (zObj 101) 170) =
    (OkL [(decide ((↑i : Int) < (↑s.length : Int)), true), (decide ((0 : Int) ≤ (↑i : Int) ∧ (↑i : Int) < (↑s.length : Int)), true), ((↑(s.getD (↑i : Int).toNat (0 : UInt8)).toNat : Int) != (255 : Int), false), ((↑i : Int) == IntKind.i64.wrap ((↑s.length : Int) - (1 : Int)), false), (decide ((0 : Int) ≤ IntKind.i64.wrap ((↑i : Int) + (1 : Int)) ∧ IntKind.i64.wrap ((↑i : Int) + (1 : Int)) < (↑s.length : Int)), true), ((↑(s.getD (IntKind.i64.wrap ((↑i : Int) + (1 : Int))).toNat (0 : UInt8)).toNat : Int) == (255 : Int), true), (decide (b.length + (1 : Nat) ≤ (9223372036854775807 : Nat)), true)] ∧ headOf Try.f34 (0 : Nat) = headOf Try.f34 (0 : Nat) ∧ (s = s ∧ (0 : Nat) = (0 : Nat) ∧ b ++ [(255 : UInt8)] = b ++ [(255 : UInt8)] ∧ (↑(i + (2 : Nat)) : Int) = IntKind.i64.wrap ((↑i : Int) + (2 : Int))) ∧ (↑(0 : Nat) : Int) = (↑(0 : Nat) : Int) ∧ (↑(0 : Nat) : Int) = (↑(0 : Nat) : Int) ∧ (↑(0 : Nat) : Int) = (↑(0 : Nat) : Int) ∧ ([] : List UInt8) = [] ∧ false = false) := by kernel_rfl

set_option maxHeartbeats 4000000 in
theorem sbQ (s b : List UInt8) (i : Nat) (h3 : 3 ≤ i) (hs : s.length ≤ 200) (hb : b.length ≤ i) (hi2 : i ≤ s.length) (hi : i + 1 < s.length) (h : sb s i = 255) (h2 : sb s (i + 1) = 255)  (v : SV) (L' : HF) (next : RunsTo Try.prog 34 (headOf Try.f34 0) (envAt Try.f34.ntmps ([(0, vS s), (2, vP 101), (4, vS (b ++ [255])), (5, vN (i + 2 : Nat))])) (Sx.look ([] ++ (zObj 101))) 80 (v) (L') 170) :
    RunsTo Try.prog 34 (headOf Try.f34 0) (envAt Try.f34.ntmps ([(0, vS s), (2, vP 101), (4, vS (b)), (5, vN (i : Nat))])) (Sx.look ([] ++ (zObj 101))) 80 (v) (L') 170 := by
  have hw : IntKind.i64.wrap ((i : Int) + 1) = ((i + 1 : Nat) : Int) := by rw [wr64 (by omega)]; rfl
  have hw2 : IntKind.i64.wrap ((i : Int) + 2) = ((i + 2 : Nat) : Int) := by rw [wr64 (by omega)]; rfl
  have hm1 : IntKind.i64.wrap ((s.length : Int) - 1) = (s.length : Int) - 1 := wr64 (by omega)
  have q0 := sb_lt s i
  have q1 := sb_lt s (i + 1)
  have q2 := sb_lt s 2
  have u1 : IntKind.i64.wrap (sb s (i + 1) : Int) = (sb s (i + 1) : Int) := wr64 (by omega)
  have u2 : IntKind.i64.wrap (sb s 2 : Int) = (sb s 2 : Int) := wr64 (by omega)
  refine runs_more baseO (More.of (sbQ_p0 s b i) ⟨?oo, rfl, ?rr⟩) (by kernel_rfl) (by kernel_rfl) rfl (gtL (by decide)) (by decide) next
  case oo =>
    clear next
    refine (okc ?_ (okc ?_ (okc ?_ (okc ?_ (okc ?_ (okc ?_ (okc ?_ okn)))))))
    all_goals ((try simp (disch := omega) only [SS, hw, hw2, hm1, u1, u2, sb_def, slice1, Go.Sx.sum, Int.toNat_natCast, List.length_append, List.length_cons, List.length_nil]); first | done | omega | assumption | (simp (disch := omega) only [SS, hw, hw2, hm1, u1, u2, sb_def, slice1, Go.Sx.sum, Int.toNat_natCast, List.length_append, List.length_cons, List.length_nil] at *; first | done | omega | assumption) | (simp_all; done))
  case rr =>
    clear next
    try simp (disch := omega) only [SS, hw, hw2, hm1, u1, u2, sb_def, slice1, Go.Sx.sum, Int.toNat_natCast, List.length_append, List.length_cons, List.length_nil]
    repeat' apply And.intro
    all_goals first | exact True.intro | with_reducible rfl | omega | (intros; first | exact True.intro | with_reducible rfl | omega | (simp_all; done)) | (simp_all; done) | rfl

theorem sbCut_p0 (s b : List UInt8) (i : Nat) :
    isEnd (evTill Try.prog [] 300 (99) 900 34 (headOf Try.f34 0) (envAt Try.f34.ntmps ([(0, vS s), (2, vP 101), (4, vS (b)), (5, vN (i : Nat))])) ([] ++ (zObj 101)) ⟨[.s true, .s true, .s false, .s true], 120⟩) (endP ([]) (nxV (z0, 0)) ([]) 170) =
    (OkL [(decide ((↑i : Int) < (↑s.length : Int)), true), (decide ((0 : Int) ≤ (↑i : Int) ∧ (↑i : Int) < (↑s.length : Int)), true), ((↑(s.getD (↑i : Int).toNat (0 : UInt8)).toNat : Int) != (255 : Int), false), ((↑i : Int) == IntKind.i64.wrap ((↑s.length : Int) - (1 : Int)), true)] ∧ (((↑(0 : Nat) : Int) = (0 : Int) ∧ (↑(0 : Nat) : Int) = (0 : Int) ∧ (↑(0 : Nat) : Int) = (0 : Int) ∧ ([] : List UInt8) = [] ∧ false = false) ∧ (↑(0 : Nat) : Int) = (0 : Int) ∧ True) ∧ True) := by kernel_rfl

set_option maxHeartbeats 4000000 in
theorem sbCut (s b : List UInt8) (i : Nat) (h3 : 3 ≤ i) (hs : s.length ≤ 200) (hb : b.length ≤ i) (hi2 : i ≤ s.length) (hi : i + 1 = s.length) (h : sb s i = 255)  :
    RunsTo Try.prog 34 (headOf Try.f34 0) (envAt Try.f34.ntmps ([(0, vS s), (2, vP 101), (4, vS (b)), (5, vN (i : Nat))])) (Sx.look ([] ++ (zObj 101))) 80 (nxV (z0, 0)) (Sx.look ([])) 170 := by
  have hw : IntKind.i64.wrap ((i : Int) + 1) = ((i + 1 : Nat) : Int) := by rw [wr64 (by omega)]; rfl
  have hw2 : IntKind.i64.wrap ((i : Int) + 2) = ((i + 2 : Nat) : Int) := by rw [wr64 (by omega)]; rfl
  have hm1 : IntKind.i64.wrap ((s.length : Int) - 1) = (s.length : Int) - 1 := wr64 (by omega)
  have q0 := sb_lt s i
  have q1 := sb_lt s (i + 1)
  have q2 := sb_lt s 2
  have u1 : IntKind.i64.wrap (sb s (i + 1) : Int) = (sb s (i + 1) : Int) := wr64 (by omega)
  have u2 : IntKind.i64.wrap (sb s 2 : Int) = (sb s 2 : Int) := wr64 (by omega)
  refine runs_last baseO (Sx.Ends.of (sbCut_p0 s b i) ⟨?oo, ?rr⟩) (by kernel_rfl) rfl (gtL (by decide)) (by decide)
  case oo =>
    refine (okc ?_ (okc ?_ (okc ?_ (okc ?_ okn))))
    all_goals ((try simp (disch := omega) only [SS, hw, hw2, hm1, u1, u2, sb_def, slice1, Go.Sx.sum, Int.toNat_natCast, List.length_append, List.length_cons, List.length_nil]); first | done | omega | assumption | (simp (disch := omega) only [SS, hw, hw2, hm1, u1, u2, sb_def, slice1, Go.Sx.sum, Int.toNat_natCast, List.length_append, List.length_cons, List.length_nil] at *; first | done | omega | assumption) | (simp_all; done))
  case rr =>
    try simp (disch := omega) only [SS, hw, hw2, hm1, u1, u2, sb_def, slice1, Go.Sx.sum, Int.toNat_natCast, List.length_append, List.length_cons, List.length_nil]
    repeat' apply And.intro
    all_goals first | exact True.intro | with_reducible rfl | omega | (simp_all; done) | (simp [nxV, dtT, z0]; done) | rfl

theorem sbS_p0 (s b : List UInt8) (i : Nat) :
    isEnd (evTill Try.prog [] 300 (99) 900 34 (headOf Try.f34 0) (envAt Try.f34.ntmps ([(0, vS s), (2, vP 101), (4, vS (b)), (5, vN (i : Nat))])) ([] ++ (zObj 101)) ⟨[.s true, .s true, .s false, .s false, .s true, .s false, .s true, .s true, .s false], 120⟩) (endP ([]) (nxV (tk 4 0 (sb s 2) b, i + 2)) ([]) 170) =
    (OkL [(decide ((↑i : Int) < (↑s.length : Int)), true), (decide ((0 : Int) ≤ (↑i : Int) ∧ (↑i : Int) < (↑s.length : Int)), true), ((↑(s.getD (↑i : Int).toNat (0 : UInt8)).toNat : Int) != (255 : Int), false), ((↑i : Int) == IntKind.i64.wrap ((↑s.length : Int) - (1 : Int)), false), (decide ((0 : Int) ≤ IntKind.i64.wrap ((↑i : Int) + (1 : Int)) ∧ IntKind.i64.wrap ((↑i : Int) + (1 : Int)) < (↑s.length : Int)), true), ((↑(s.getD (IntKind.i64.wrap ((↑i : Int) + (1 : Int))).toNat (0 : UInt8)).toNat : Int) == (255 : Int), false), ((↑(s.getD (IntKind.i64.wrap ((↑i : Int) + (1 : Int))).toNat (0 : UInt8)).toNat : Int) == (240 : Int), true), (decide ((0 : Int) ≤ (2 : Int) ∧ (2 : Int) < (↑s.length : Int)), true), (decide ((↑b.length : Int) > (256 : Int)), false)] ∧ (((↑(4 : Nat) : Int) = (4 : Int) ∧ (↑(0 : Nat) : Int) = (0 : Int) ∧ (↑(sb s (2 : Nat)) : Int) = IntKind.i64.wrap (↑(s.getD (2 : Nat) (0 : UInt8)).toNat : Int) ∧ b = b ∧ false = false) ∧ (↑(i + (2 : Nat)) : Int) = IntKind.i64.wrap ((↑i : Int) + (2 : Int)) ∧ True) ∧ True) := by kernel_rfl

set_option maxHeartbeats 4000000 in
theorem sbS (s b : List UInt8) (i : Nat) (h3 : 3 ≤ i) (hs : s.length ≤ 200) (hb : b.length ≤ i) (hi2 : i ≤ s.length) (hi : i + 1 < s.length) (h : sb s i = 255) (h2 : sb s (i + 1) = 240)  :
    RunsTo Try.prog 34 (headOf Try.f34 0) (envAt Try.f34.ntmps ([(0, vS s), (2, vP 101), (4, vS (b)), (5, vN (i : Nat))])) (Sx.look ([] ++ (zObj 101))) 80 (nxV (tk 4 0 (sb s 2) b, i + 2)) (Sx.look ([])) 170 := by
  have hw : IntKind.i64.wrap ((i : Int) + 1) = ((i + 1 : Nat) : Int) := by rw [wr64 (by omega)]; rfl
  have hw2 : IntKind.i64.wrap ((i : Int) + 2) = ((i + 2 : Nat) : Int) := by rw [wr64 (by omega)]; rfl
  have hm1 : IntKind.i64.wrap ((s.length : Int) - 1) = (s.length : Int) - 1 := wr64 (by omega)
  have q0 := sb_lt s i
  have q1 := sb_lt s (i + 1)
  have q2 := sb_lt s 2
  have u1 : IntKind.i64.wrap (sb s (i + 1) : Int) = (sb s (i + 1) : Int) := wr64 (by omega)
  have u2 : IntKind.i64.wrap (sb s 2 : Int) = (sb s 2 : Int) := wr64 (by omega)
  refine runs_last baseO (Sx.Ends.of (sbS_p0 s b i) ⟨?oo, ?rr⟩) (by kernel_rfl) rfl (gtL (by decide)) (by decide)
  case oo =>
    refine (okc ?_ (okc ?_ (okc ?_ (okc ?_ (okc ?_ (okc ?_ (okc ?_ (okc ?_ (okc ?_ okn)))))))))
    all_goals ((try simp (disch := omega) only [SS, hw, hw2, hm1, u1, u2, sb_def, slice1, Go.Sx.sum, Int.toNat_natCast, List.length_append, List.length_cons, List.length_nil]); first | done | omega | assumption | (simp (disch := omega) only [SS, hw, hw2, hm1, u1, u2, sb_def, slice1, Go.Sx.sum, Int.toNat_natCast, List.length_append, List.length_cons, List.length_nil] at *; first | done | omega | assumption) | (simp_all; done))
  case rr =>
    try simp (disch := omega) only [SS, hw, hw2, hm1, u1, u2, sb_def, slice1, Go.Sx.sum, Int.toNat_natCast, List.length_append, List.length_cons, List.length_nil]
    repeat' apply And.intro
    all_goals first | exact True.intro | with_reducible rfl | omega | (simp_all; done) | (simp [nxV, dtT, z0]; done) | rfl

theorem sbB_p0 (s b : List UInt8) (i : Nat) :
    isEnd (evTill Try.prog [] 300 (99) 900 34 (headOf Try.f34 0) (envAt Try.f34.ntmps ([(0, vS s), (2, vP 101), (4, vS (b)), (5, vN (i : Nat))])) ([] ++ (zObj 101)) ⟨[.s true, .s true, .s false, .s false, .s true, .s false, .s false, .s true], 120⟩) (endP ([]) (nxV (tk 5 (sb s (i + 1)) (sb s 2) [], i + 2)) ([]) 170) =
    (OkL [(decide ((↑i : Int) < (↑s.length : Int)), true), (decide ((0 : Int) ≤ (↑i : Int) ∧ (↑i : Int) < (↑s.length : Int)), true), ((↑(s.getD (↑i : Int).toNat (0 : UInt8)).toNat : Int) != (255 : Int), false), ((↑i : Int) == IntKind.i64.wrap ((↑s.length : Int) - (1 : Int)), false), (decide ((0 : Int) ≤ IntKind.i64.wrap ((↑i : Int) + (1 : Int)) ∧ IntKind.i64.wrap ((↑i : Int) + (1 : Int)) < (↑s.length : Int)), true), ((↑(s.getD (IntKind.i64.wrap ((↑i : Int) + (1 : Int))).toNat (0 : UInt8)).toNat : Int) == (255 : Int), false), ((↑(s.getD (IntKind.i64.wrap ((↑i : Int) + (1 : Int))).toNat (0 : UInt8)).toNat : Int) == (240 : Int), false), (decide ((0 : Int) ≤ (2 : Int) ∧ (2 : Int) < (↑s.length : Int)), true)] ∧ (((↑(5 : Nat) : Int) = (5 : Int) ∧ (↑(sb s (i + (1 : Nat))) : Int) = IntKind.i64.wrap (↑(s.getD (IntKind.i64.wrap ((↑i : Int) + (1 : Int))).toNat (0 : UInt8)).toNat : Int) ∧ (↑(sb s (2 : Nat)) : Int) = IntKind.i64.wrap (↑(s.getD (2 : Nat) (0 : UInt8)).toNat : Int) ∧ ([] : List UInt8) = [] ∧ false = false) ∧ (↑(i + (2 : Nat)) : Int) = IntKind.i64.wrap ((↑i : Int) + (2 : Int)) ∧ True) ∧ True) := by kernel_rfl

set_option maxHeartbeats 4000000 in
theorem sbB (s b : List UInt8) (i : Nat) (h3 : 3 ≤ i) (hs : s.length ≤ 200) (hb : b.length ≤ i) (hi2 : i ≤ s.length) (hi : i + 1 < s.length) (h : sb s i = 255) (h2 : sb s (i + 1) ≠ 240) (h4 : sb s (i + 1) ≠ 255)  :
    RunsTo Try.prog 34 (headOf Try.f34 0) (envAt Try.f34.ntmps ([(0, vS s), (2, vP 101), (4, vS (b)), (5, vN (i : Nat))])) (Sx.look ([] ++ (zObj 101))) 80 (nxV (tk 5 (sb s (i + 1)) (sb s 2) [], i + 2)) (Sx.look ([])) 170 := by
  have hw : IntKind.i64.wrap ((i : Int) + 1) = ((i + 1 : Nat) : Int) := by rw [wr64 (by omega)]; rfl
  have hw2 : IntKind.i64.wrap ((i : Int) + 2) = ((i + 2 : Nat) : Int) := by rw [wr64 (by omega)]; rfl
  have hm1 : IntKind.i64.wrap ((s.length : Int) - 1) = (s.length : Int) - 1 := wr64 (by omega)
  have q0 := sb_lt s i
  have q1 := sb_lt s (i + 1)
  have q2 := sb_lt s 2
  have u1 : IntKind.i64.wrap (sb s (i + 1) : Int) = (sb s (i + 1) : Int) := wr64 (by omega)
  have u2 : IntKind.i64.wrap (sb s 2 : Int) = (sb s 2 : Int) := wr64 (by omega)
  refine runs_last baseO (Sx.Ends.of (sbB_p0 s b i) ⟨?oo, ?rr⟩) (by kernel_rfl) rfl (gtL (by decide)) (by decide)
  case oo =>
    refine (okc ?_ (okc ?_ (okc ?_ (okc ?_ (okc ?_ (okc ?_ (okc ?_ (okc ?_ okn))))))))
    all_goals ((try simp (disch := omega) only [SS, hw, hw2, hm1, u1, u2, sb_def, slice1, Go.Sx.sum, Int.toNat_natCast, List.length_append, List.length_cons, List.length_nil]); first | done | omega | assumption | (simp (disch := omega) only [SS, hw, hw2, hm1, u1, u2, sb_def, slice1, Go.Sx.sum, Int.toNat_natCast, List.length_append, List.length_cons, List.length_nil] at *; first | done | omega | assumption) | (simp_all; done))
  case rr =>
    try simp (disch := omega) only [SS, hw, hw2, hm1, u1, u2, sb_def, slice1, Go.Sx.sum, Int.toNat_natCast, List.length_append, List.length_cons, List.length_nil]
    repeat' apply And.intro
    all_goals first | exact True.intro | with_reducible rfl | omega | (simp_all; done) | (simp [nxV, dtT, z0]; done) | rfl

theorem sbE_p0 (s b : List UInt8) (i : Nat) :
    isEnd (evTill Try.prog [] 300 (99) 900 34 (headOf Try.f34 0) (envAt Try.f34.ntmps ([(0, vS s), (2, vP 101), (4, vS (b)), (5, vN (i : Nat))])) ([] ++ (zObj 101)) ⟨[.s false], 120⟩) (endP ([]) (nxV (z0, 0)) ([]) 170) =
    (OkL [(decide ((↑i : Int) < (↑s.length : Int)), false)] ∧ (((↑(0 : Nat) : Int) = (0 : Int) ∧ (↑(0 : Nat) : Int) = (0 : Int) ∧ (↑(0 : Nat) : Int) = (0 : Int) ∧ ([] : List UInt8) = [] ∧ false = false) ∧ (↑(0 : Nat) : Int) = (0 : Int) ∧ True) ∧ True) := by kernel_rfl

set_option maxHeartbeats 4000000 in
theorem sbE (s b : List UInt8) (i : Nat) (h3 : 3 ≤ i) (hs : s.length ≤ 200) (hb : b.length ≤ i) (hi2 : i ≤ s.length) (hi : i = s.length)  :
    RunsTo Try.prog 34 (headOf Try.f34 0) (envAt Try.f34.ntmps ([(0, vS s), (2, vP 101), (4, vS (b)), (5, vN (i : Nat))])) (Sx.look ([] ++ (zObj 101))) 80 (nxV (z0, 0)) (Sx.look ([])) 170 := by
  have hw : IntKind.i64.wrap ((i : Int) + 1) = ((i + 1 : Nat) : Int) := by rw [wr64 (by omega)]; rfl
  have hw2 : IntKind.i64.wrap ((i : Int) + 2) = ((i + 2 : Nat) : Int) := by rw [wr64 (by omega)]; rfl
  have hm1 : IntKind.i64.wrap ((s.length : Int) - 1) = (s.length : Int) - 1 := wr64 (by omega)
  have q0 := sb_lt s i
  have q1 := sb_lt s (i + 1)
  have q2 := sb_lt s 2
  have u1 : IntKind.i64.wrap (sb s (i + 1) : Int) = (sb s (i + 1) : Int) := wr64 (by omega)
  have u2 : IntKind.i64.wrap (sb s 2 : Int) = (sb s 2 : Int) := wr64 (by omega)
  refine runs_last baseO (Sx.Ends.of (sbE_p0 s b i) ⟨?oo, ?rr⟩) (by kernel_rfl) rfl (gtL (by decide)) (by decide)
  case oo =>
    refine (okc ?_ okn)
    all_goals ((try simp (disch := omega) only [SS, hw, hw2, hm1, u1, u2, sb_def, slice1, Go.Sx.sum, Int.toNat_natCast, List.length_append, List.length_cons, List.length_nil]); first | done | omega | assumption | (simp (disch := omega) only [SS, hw, hw2, hm1, u1, u2, sb_def, slice1, Go.Sx.sum, Int.toNat_natCast, List.length_append, List.length_cons, List.length_nil] at *; first | done | omega | assumption) | (simp_all; done))
  case rr =>
    try simp (disch := omega) only [SS, hw, hw2, hm1, u1, u2, sb_def, slice1, Go.Sx.sum, Int.toNat_natCast, List.length_append, List.length_cons, List.length_nil]
    repeat' apply And.intro
    all_goals first | exact True.intro | with_reducible rfl | omega | (simp_all; done) | (simp [nxV, dtT, z0]; done) | rfl

theorem sub_n {c : UInt8} (o : Nat) (r b : List UInt8) (i : Nat) (h : c ≠ 255) : subR o (c :: r) b i = subR o r (b ++ [c]) (i + 1) := by rw [subR.eq_def]; simp [h]
theorem sbL_x (o : Nat) (b : List UInt8) (i : Nat) (d : UInt8) (r : List UInt8) : (d = 255 → subR o (255 :: d :: r) b i = subR o r (b ++ [255]) (i + 2)) ∧ (d = 240 → subR o (255 :: d :: r) b i = (tk 4 0 o b, i + 2)) ∧ (d ≠ 255 → d ≠ 240 → subR o (255 :: d :: r) b i = (tk 5 d.toNat o [], i + 2)) := by
  refine ⟨fun h => ?_, fun h => ?_, fun h h2 => ?_⟩
  · subst h; simp [subR]
  · subst h; simp [subR, tk]
  · simp [subR, h, h2, tk]
theorem sbL (s : List UInt8) (hs : s.length ≤ 200) : ∀ (k i : Nat) (b : List UInt8), s.length - i ≤ k → 3 ≤ i → i ≤ s.length → b.length ≤ i → RunsTo Try.prog 34 (headOf Try.f34 0) (envAt Try.f34.ntmps ([(0, vS s), (2, vP 101), (4, vS (b)), (5, vN (i : Nat))])) (Sx.look ([] ++ (zObj 101))) 80 (nxV (subR (sb s 2) (s.drop i) b i)) (Sx.look []) 170 := by
  intro k
  induction k with
  | zero =>
    intro i b hk h3 hi hb
    rw [show s.drop i = [] from List.drop_eq_nil_of_le (by omega)]
    exact sbE s b i h3 hs hb hi (by omega)
  | succ k ih =>
    intro i b hk h3 hi hb
    by_cases he : i = s.length
    · rw [show s.drop i = [] from List.drop_eq_nil_of_le (by omega)]
      exact sbE s b i h3 hs hb hi he
    · have hd := drop_at s (i := i) (by omega)
      by_cases h : sb s i = 255
      · have e := sb_eq (c := 255) h
        by_cases h1 : i + 1 = s.length
        · rw [hd, e, show s.drop (i + 1) = [] from List.drop_eq_nil_of_le (by omega)]
          exact sbCut s b i h3 hs hb hi h1 h
        · have hd1 := drop_at s (i := i + 1) (by omega)
          have ex := sbL_x (sb s 2) b i (s.getD (i + 1) 0) (s.drop (i + 1 + 1))
          rw [hd, e, hd1]
          by_cases h2 : sb s (i + 1) = 255
          · rw [ex.1 (sb_eq (c := 255) h2)]
            exact sbQ s b i h3 hs hb hi (by omega) h h2 _ _ (ih (i + 2) _ (by omega) (by omega) (by omega) (by simp; omega))
          · by_cases h4 : sb s (i + 1) = 240
            · rw [ex.2.1 (sb_eq (c := 240) h4)]
              exact sbS s b i h3 hs hb hi (by omega) h h4
            · rw [ex.2.2 (fun q => h2 (by show (s.getD (i + 1) 0).toNat = 255; rw [q]; rfl)) (fun q => h4 (by show (s.getD (i + 1) 0).toNat = 240; rw [q]; rfl))]
              exact sbB s b i h3 hs hb hi (by omega) h h4 h2
      · rw [hd, sub_n _ _ _ _ (fun q => h (by show (s.getD i 0).toNat = 255; rw [q]; rfl))]
        exact sbN s b i h3 hs hb hi (by omega) h _ _ (ih (i + 1) _ (by omega) (by omega) (by omega) (by simp; omega))
theorem sbI (s : List UInt8) (h : 3 ≤ s.length ∧ s.length ≤ 200) : RunsTo Try.prog 34 [.code (bodyOf Try.f34)] (envOf [vS s] Try.f34.ntmps) (Sx.look ([] ++ ([]))) 80 (nxV (subR (sb s 2) (s.drop 3) [] 3)) (Sx.look []) 170 := sbStart s _ _ (sbL s h.2 s.length 3 [] (by omega) (by omega) h.1 (by simp))
def sbP : PC := { args := [.v (.vs 0)], heap := [], gs := [], G := 0, tp := 999, n := 80, n' := 170, cond := fun e => decide (3 ≤ (eS e 0 []).length ∧ (eS e 0 []).length ≤ 200), v := fun e => nxV (subR (sb (eS e 0 []) 2) ((eS e 0 []).drop 3) [] 3), post := fun e => [] }
theorem sbP_pc : PC.Runs Try.prog 34 Try.f34 (bodyOf Try.f34) sbP := ⟨Try.func34, by kernel_rfl, (fun g hg => by first | (cases hg; done) | (revert g; show ∀ g ∈ ([] : List Nat), g < 0; decide)), fun e H hc => by
  have hc : (decide (3 ≤ (eS e 0 []).length ∧ (eS e 0 []).length ≤ 200)) = true := hc
  try simp only [Bool.and_eq_true, decide_eq_true_eq, Nat.beq_eq] at hc
  exact sbI (eS e 0 []) hc⟩
def sumsS : List (FuncId × Summ) := [(34, sbP.summ 0)]
theorem baseS : Base0 Try.prog sumsS := (baseO.cons Try.func34 (by kernel_rfl) (PC.summ_ok sbP_pc gtopG))
theorem nx0_p0 (s : List UInt8) :
    isEnd (evTill Try.prog sumsS 300 (99) 900 29 [.code (bodyOf Try.f29)] (envOf [vS s] Try.f29.ntmps) ([] ++ ([])) ⟨[.s true], 80⟩) (endP ([]) (nxV ((z0, 0))) ([]) 200) =
    (OkL [((↑s.length : Int) == (0 : Int), true)] ∧ (((↑(0 : Nat) : Int) = (0 : Int) ∧ (↑(0 : Nat) : Int) = (0 : Int) ∧ (↑(0 : Nat) : Int) = (0 : Int) ∧ ([] : List UInt8) = [] ∧ false = false) ∧ (↑(0 : Nat) : Int) = (0 : Int) ∧ True) ∧ True) := by kernel_rfl

set_option maxHeartbeats 4000000 in
theorem nx0 (s : List UInt8) (hs : s.length ≤ 200) (h : s.length = 0)  :
    RunsTo Try.prog 29 [.code (bodyOf Try.f29)] (envOf [vS s] Try.f29.ntmps) (Sx.look ([] ++ ([]))) 80 (nxV ((z0, 0))) (Sx.look ([])) 200 := by
  have q0 := sb_lt s 0
  have q1 := sb_lt s 1
  have q2 := sb_lt s 2
  have u0 : IntKind.i64.wrap (sb s 0 : Int) = (sb s 0 : Int) := wr64 (by omega)
  have u1 : IntKind.i64.wrap (sb s 1 : Int) = (sb s 1 : Int) := wr64 (by omega)
  have u2 : IntKind.i64.wrap (sb s 2 : Int) = (sb s 2 : Int) := wr64 (by omega)
  refine runs_last baseS (Sx.Ends.of (nx0_p0 s) ⟨?oo, ?rr⟩) (by kernel_rfl) rfl (gtL (by decide)) (by decide)
  case oo =>
    refine (okc ?_ okn)
    all_goals ((try simp (disch := omega) only [SS, u0, u1, u2, sb_def, Int.toNat_natCast]); first | done | omega | assumption | (simp (disch := omega) only [SS, u0, u1, u2, sb_def, Int.toNat_natCast] at *; first | done | omega | assumption) | (simp_all; done))
  case rr =>
    try simp (disch := omega) only [SS, u0, u1, u2, sb_def, Int.toNat_natCast]
    repeat' apply And.intro
    all_goals first | exact True.intro | with_reducible rfl | omega | (simp_all; done) | (simp [nxV, dtT, z0]; done) | rfl

theorem nxD_p0 (s : List UInt8) :
    isEnd (evTill Try.prog sumsS 300 (99) 900 29 [.code (bodyOf Try.f29)] (envOf [vS s] Try.f29.ntmps) ([] ++ ([])) ⟨[.s false, .s true, .s true, .s true], 80⟩) (endP ([]) (nxV ((tk 1 (sb s 0) 0 [], 1))) ([]) 200) =
    (OkL [((↑s.length : Int) == (0 : Int), false), (decide ((0 : Int) ≤ (0 : Int) ∧ (0 : Int) < (↑s.length : Int)), true), ((↑(s.getD (0 : Nat) (0 : UInt8)).toNat : Int) != (255 : Int), true), (decide ((0 : Int) ≤ (0 : Int) ∧ (0 : Int) < (↑s.length : Int)), true)] ∧ (((↑(1 : Nat) : Int) = (1 : Int) ∧ (↑(sb s (0 : Nat)) : Int) = IntKind.i64.wrap (↑(s.getD (0 : Nat) (0 : UInt8)).toNat : Int) ∧ (↑(0 : Nat) : Int) = (0 : Int) ∧ ([] : List UInt8) = [] ∧ false = false) ∧ (↑(1 : Nat) : Int) = (1 : Int) ∧ True) ∧ True) := by kernel_rfl

set_option maxHeartbeats 4000000 in
theorem nxD (s : List UInt8) (hs : s.length ≤ 200) (h : 0 < s.length) (h0 : sb s 0 ≠ 255)  :
    RunsTo Try.prog 29 [.code (bodyOf Try.f29)] (envOf [vS s] Try.f29.ntmps) (Sx.look ([] ++ ([]))) 80 (nxV ((tk 1 (sb s 0) 0 [], 1))) (Sx.look ([])) 200 := by
  have q0 := sb_lt s 0
  have q1 := sb_lt s 1
  have q2 := sb_lt s 2
  have u0 : IntKind.i64.wrap (sb s 0 : Int) = (sb s 0 : Int) := wr64 (by omega)
  have u1 : IntKind.i64.wrap (sb s 1 : Int) = (sb s 1 : Int) := wr64 (by omega)
  have u2 : IntKind.i64.wrap (sb s 2 : Int) = (sb s 2 : Int) := wr64 (by omega)
  refine runs_last baseS (Sx.Ends.of (nxD_p0 s) ⟨?oo, ?rr⟩) (by kernel_rfl) rfl (gtL (by decide)) (by decide)
  case oo =>
    refine (okc ?_ (okc ?_ (okc ?_ (okc ?_ okn))))
    all_goals ((try simp (disch := omega) only [SS, u0, u1, u2, sb_def, Int.toNat_natCast]); first | done | omega | assumption | (simp (disch := omega) only [SS, u0, u1, u2, sb_def, Int.toNat_natCast] at *; first | done | omega | assumption) | (simp_all; done))
  case rr =>
    try simp (disch := omega) only [SS, u0, u1, u2, sb_def, Int.toNat_natCast]
    repeat' apply And.intro
    all_goals first | exact True.intro | with_reducible rfl | omega | (simp_all; done) | (simp [nxV, dtT, z0]; done) | rfl

theorem nx1_p0 (s : List UInt8) :
    isEnd (evTill Try.prog sumsS 300 (99) 900 29 [.code (bodyOf Try.f29)] (envOf [vS s] Try.f29.ntmps) ([] ++ ([])) ⟨[.s false, .s true, .s false, .s true], 80⟩) (endP ([]) (nxV ((z0, 0))) ([]) 200) =
    (OkL [((↑s.length : Int) == (0 : Int), false), (decide ((0 : Int) ≤ (0 : Int) ∧ (0 : Int) < (↑s.length : Int)), true), ((↑(s.getD (0 : Nat) (0 : UInt8)).toNat : Int) != (255 : Int), false), ((↑s.length : Int) == (1 : Int), true)] ∧ (((↑(0 : Nat) : Int) = (0 : Int) ∧ (↑(0 : Nat) : Int) = (0 : Int) ∧ (↑(0 : Nat) : Int) = (0 : Int) ∧ ([] : List UInt8) = [] ∧ false = false) ∧ (↑(0 : Nat) : Int) = (0 : Int) ∧ True) ∧ True) := by kernel_rfl

set_option maxHeartbeats 4000000 in
theorem nx1 (s : List UInt8) (hs : s.length ≤ 200) (h : s.length = 1) (h0 : sb s 0 = 255)  :
    RunsTo Try.prog 29 [.code (bodyOf Try.f29)] (envOf [vS s] Try.f29.ntmps) (Sx.look ([] ++ ([]))) 80 (nxV ((z0, 0))) (Sx.look ([])) 200 := by
  have q0 := sb_lt s 0
  have q1 := sb_lt s 1
  have q2 := sb_lt s 2
  have u0 : IntKind.i64.wrap (sb s 0 : Int) = (sb s 0 : Int) := wr64 (by omega)
  have u1 : IntKind.i64.wrap (sb s 1 : Int) = (sb s 1 : Int) := wr64 (by omega)
  have u2 : IntKind.i64.wrap (sb s 2 : Int) = (sb s 2 : Int) := wr64 (by omega)
  refine runs_last baseS (Sx.Ends.of (nx1_p0 s) ⟨?oo, ?rr⟩) (by kernel_rfl) rfl (gtL (by decide)) (by decide)
  case oo =>
    refine (okc ?_ (okc ?_ (okc ?_ (okc ?_ okn))))
    all_goals ((try simp (disch := omega) only [SS, u0, u1, u2, sb_def, Int.toNat_natCast]); first | done | omega | assumption | (simp (disch := omega) only [SS, u0, u1, u2, sb_def, Int.toNat_natCast] at *; first | done | omega | assumption) | (simp_all; done))
  case rr =>
    try simp (disch := omega) only [SS, u0, u1, u2, sb_def, Int.toNat_natCast]
    repeat' apply And.intro
    all_goals first | exact True.intro | with_reducible rfl | omega | (simp_all; done) | (simp [nxV, dtT, z0]; done) | rfl

theorem nxE_p0 (s : List UInt8) :
    isEnd (evTill Try.prog sumsS 300 (99) 900 29 [.code (bodyOf Try.f29)] (envOf [vS s] Try.f29.ntmps) ([] ++ ([])) ⟨[.s false, .s true, .s false, .s false, .s true, .s true], 80⟩) (endP ([]) (nxV ((tk 1 255 0 [], 2))) ([]) 200) =
    (OkL [((↑s.length : Int) == (0 : Int), false), (decide ((0 : Int) ≤ (0 : Int) ∧ (0 : Int) < (↑s.length : Int)), true), ((↑(s.getD (0 : Nat) (0 : UInt8)).toNat : Int) != (255 : Int), false), ((↑s.length : Int) == (1 : Int), false), (decide ((0 : Int) ≤ (1 : Int) ∧ (1 : Int) < (↑s.length : Int)), true), (IntKind.i64.wrap (↑(s.getD (1 : Nat) (0 : UInt8)).toNat : Int) == (255 : Int), true)] ∧ (((↑(1 : Nat) : Int) = (1 : Int) ∧ (↑(255 : Nat) : Int) = (255 : Int) ∧ (↑(0 : Nat) : Int) = (0 : Int) ∧ ([] : List UInt8) = [] ∧ false = false) ∧ (↑(2 : Nat) : Int) = (2 : Int) ∧ True) ∧ True) := by kernel_rfl

set_option maxHeartbeats 4000000 in
theorem nxE (s : List UInt8) (hs : s.length ≤ 200) (h : 1 < s.length) (h0 : sb s 0 = 255) (h1 : sb s 1 = 255)  :
    RunsTo Try.prog 29 [.code (bodyOf Try.f29)] (envOf [vS s] Try.f29.ntmps) (Sx.look ([] ++ ([]))) 80 (nxV ((tk 1 255 0 [], 2))) (Sx.look ([])) 200 := by
  have q0 := sb_lt s 0
  have q1 := sb_lt s 1
  have q2 := sb_lt s 2
  have u0 : IntKind.i64.wrap (sb s 0 : Int) = (sb s 0 : Int) := wr64 (by omega)
  have u1 : IntKind.i64.wrap (sb s 1 : Int) = (sb s 1 : Int) := wr64 (by omega)
  have u2 : IntKind.i64.wrap (sb s 2 : Int) = (sb s 2 : Int) := wr64 (by omega)
  refine runs_last baseS (Sx.Ends.of (nxE_p0 s) ⟨?oo, ?rr⟩) (by kernel_rfl) rfl (gtL (by decide)) (by decide)
  case oo =>
    refine (okc ?_ (okc ?_ (okc ?_ (okc ?_ (okc ?_ (okc ?_ okn))))))
    all_goals ((try simp (disch := omega) only [SS, u0, u1, u2, sb_def, Int.toNat_natCast]); first | done | omega | assumption | (simp (disch := omega) only [SS, u0, u1, u2, sb_def, Int.toNat_natCast] at *; first | done | omega | assumption) | (simp_all; done))
  case rr =>
    try simp (disch := omega) only [SS, u0, u1, u2, sb_def, Int.toNat_natCast]
    repeat' apply And.intro
    all_goals first | exact True.intro | with_reducible rfl | omega | (simp_all; done) | (simp [nxV, dtT, z0]; done) | rfl

theorem nxP_p0 (s : List UInt8) :
    isEnd (evTill Try.prog sumsS 300 (99) 900 29 [.code (bodyOf Try.f29)] (envOf [vS s] Try.f29.ntmps) ([] ++ ([])) ⟨[.s false, .s true, .s false, .s false, .s true, .s false, .s true], 80⟩) (endP ([]) (nxV ((tk 2 (sb s 1) 0 [], 2))) ([]) 200) =
    (OkL [((↑s.length : Int) == (0 : Int), false), (decide ((0 : Int) ≤ (0 : Int) ∧ (0 : Int) < (↑s.length : Int)), true), ((↑(s.getD (0 : Nat) (0 : UInt8)).toNat : Int) != (255 : Int), false), ((↑s.length : Int) == (1 : Int), false), (decide ((0 : Int) ≤ (1 : Int) ∧ (1 : Int) < (↑s.length : Int)), true), (IntKind.i64.wrap (↑(s.getD (1 : Nat) (0 : UInt8)).toNat : Int) == (255 : Int), false), (decide (IntKind.i64.wrap (↑(s.getD (1 : Nat) (0 : UInt8)).toNat : Int) < (250 : Int)), true)] ∧ (((↑(2 : Nat) : Int) = (2 : Int) ∧ (↑(sb s (1 : Nat)) : Int) = IntKind.i64.wrap (↑(s.getD (1 : Nat) (0 : UInt8)).toNat : Int) ∧ (↑(0 : Nat) : Int) = (0 : Int) ∧ ([] : List UInt8) = [] ∧ false = false) ∧ (↑(2 : Nat) : Int) = (2 : Int) ∧ True) ∧ True) := by kernel_rfl

set_option maxHeartbeats 4000000 in
theorem nxP (s : List UInt8) (hs : s.length ≤ 200) (h : 1 < s.length) (h0 : sb s 0 = 255) (h1 : sb s 1 < 250)  :
    RunsTo Try.prog 29 [.code (bodyOf Try.f29)] (envOf [vS s] Try.f29.ntmps) (Sx.look ([] ++ ([]))) 80 (nxV ((tk 2 (sb s 1) 0 [], 2))) (Sx.look ([])) 200 := by
  have q0 := sb_lt s 0
  have q1 := sb_lt s 1
  have q2 := sb_lt s 2
  have u0 : IntKind.i64.wrap (sb s 0 : Int) = (sb s 0 : Int) := wr64 (by omega)
  have u1 : IntKind.i64.wrap (sb s 1 : Int) = (sb s 1 : Int) := wr64 (by omega)
  have u2 : IntKind.i64.wrap (sb s 2 : Int) = (sb s 2 : Int) := wr64 (by omega)
  refine runs_last baseS (Sx.Ends.of (nxP_p0 s) ⟨?oo, ?rr⟩) (by kernel_rfl) rfl (gtL (by decide)) (by decide)
  case oo =>
    refine (okc ?_ (okc ?_ (okc ?_ (okc ?_ (okc ?_ (okc ?_ (okc ?_ okn)))))))
    all_goals ((try simp (disch := omega) only [SS, u0, u1, u2, sb_def, Int.toNat_natCast]); first | done | omega | assumption | (simp (disch := omega) only [SS, u0, u1, u2, sb_def, Int.toNat_natCast] at *; first | done | omega | assumption) | (simp_all; done))
  case rr =>
    try simp (disch := omega) only [SS, u0, u1, u2, sb_def, Int.toNat_natCast]
    repeat' apply And.intro
    all_goals first | exact True.intro | with_reducible rfl | omega | (simp_all; done) | (simp [nxV, dtT, z0]; done) | rfl

theorem nx2_p0 (s : List UInt8) :
    isEnd (evTill Try.prog sumsS 300 (99) 900 29 [.code (bodyOf Try.f29)] (envOf [vS s] Try.f29.ntmps) ([] ++ ([])) ⟨[.s false, .s true, .s false, .s false, .s true, .s false, .s false, .s true], 80⟩) (endP ([]) (nxV ((z0, 0))) ([]) 200) =
    (OkL [((↑s.length : Int) == (0 : Int), false), (decide ((0 : Int) ≤ (0 : Int) ∧ (0 : Int) < (↑s.length : Int)), true), ((↑(s.getD (0 : Nat) (0 : UInt8)).toNat : Int) != (255 : Int), false), ((↑s.length : Int) == (1 : Int), false), (decide ((0 : Int) ≤ (1 : Int) ∧ (1 : Int) < (↑s.length : Int)), true), (IntKind.i64.wrap (↑(s.getD (1 : Nat) (0 : UInt8)).toNat : Int) == (255 : Int), false), (decide (IntKind.i64.wrap (↑(s.getD (1 : Nat) (0 : UInt8)).toNat : Int) < (250 : Int)), false), ((↑s.length : Int) == (2 : Int), true)] ∧ (((↑(0 : Nat) : Int) = (0 : Int) ∧ (↑(0 : Nat) : Int) = (0 : Int) ∧ (↑(0 : Nat) : Int) = (0 : Int) ∧ ([] : List UInt8) = [] ∧ false = false) ∧ (↑(0 : Nat) : Int) = (0 : Int) ∧ True) ∧ True) := by kernel_rfl

set_option maxHeartbeats 4000000 in
theorem nx2 (s : List UInt8) (hs : s.length ≤ 200) (h : s.length = 2) (h0 : sb s 0 = 255) (h1 : 250 ≤ sb s 1 ∧ sb s 1 ≠ 255)  :
    RunsTo Try.prog 29 [.code (bodyOf Try.f29)] (envOf [vS s] Try.f29.ntmps) (Sx.look ([] ++ ([]))) 80 (nxV ((z0, 0))) (Sx.look ([])) 200 := by
  have q0 := sb_lt s 0
  have q1 := sb_lt s 1
  have q2 := sb_lt s 2
  have u0 : IntKind.i64.wrap (sb s 0 : Int) = (sb s 0 : Int) := wr64 (by omega)
  have u1 : IntKind.i64.wrap (sb s 1 : Int) = (sb s 1 : Int) := wr64 (by omega)
  have u2 : IntKind.i64.wrap (sb s 2 : Int) = (sb s 2 : Int) := wr64 (by omega)
  refine runs_last baseS (Sx.Ends.of (nx2_p0 s) ⟨?oo, ?rr⟩) (by kernel_rfl) rfl (gtL (by decide)) (by decide)
  case oo =>
    refine (okc ?_ (okc ?_ (okc ?_ (okc ?_ (okc ?_ (okc ?_ (okc ?_ (okc ?_ okn))))))))
    all_goals ((try simp (disch := omega) only [SS, u0, u1, u2, sb_def, Int.toNat_natCast]); first | done | omega | assumption | (simp (disch := omega) only [SS, u0, u1, u2, sb_def, Int.toNat_natCast] at *; first | done | omega | assumption) | (simp_all; done))
  case rr =>
    try simp (disch := omega) only [SS, u0, u1, u2, sb_def, Int.toNat_natCast]
    repeat' apply And.intro
    all_goals first | exact True.intro | with_reducible rfl | omega | (simp_all; done) | (simp [nxV, dtT, z0]; done) | rfl

theorem nxW_p0 (s : List UInt8) :
    isEnd (evTill Try.prog sumsS 300 (99) 900 29 [.code (bodyOf Try.f29)] (envOf [vS s] Try.f29.ntmps) ([] ++ ([])) ⟨[.s false, .s true, .s false, .s false, .s true, .s false, .s false, .s false, .s true, .s true], 80⟩) (endP ([]) (nxV ((tk 3 (sb s 1) (sb s 2) [], 3))) ([]) 200) =
    (OkL [((↑s.length : Int) == (0 : Int), false), (decide ((0 : Int) ≤ (0 : Int) ∧ (0 : Int) < (↑s.length : Int)), true), ((↑(s.getD (0 : Nat) (0 : UInt8)).toNat : Int) != (255 : Int), false), ((↑s.length : Int) == (1 : Int), false), (decide ((0 : Int) ≤ (1 : Int) ∧ (1 : Int) < (↑s.length : Int)), true), (IntKind.i64.wrap (↑(s.getD (1 : Nat) (0 : UInt8)).toNat : Int) == (255 : Int), false), (decide (IntKind.i64.wrap (↑(s.getD (1 : Nat) (0 : UInt8)).toNat : Int) < (250 : Int)), false), ((↑s.length : Int) == (2 : Int), false), (decide (IntKind.i64.wrap (↑(s.getD (1 : Nat) (0 : UInt8)).toNat : Int) > (250 : Int)), true), (decide ((0 : Int) ≤ (2 : Int) ∧ (2 : Int) < (↑s.length : Int)), true)] ∧ (((↑(3 : Nat) : Int) = (3 : Int) ∧ (↑(sb s (1 : Nat)) : Int) = IntKind.i64.wrap (↑(s.getD (1 : Nat) (0 : UInt8)).toNat : Int) ∧ (↑(sb s (2 : Nat)) : Int) = IntKind.i64.wrap (↑(s.getD (2 : Nat) (0 : UInt8)).toNat : Int) ∧ ([] : List UInt8) = [] ∧ false = false) ∧ (↑(3 : Nat) : Int) = (3 : Int) ∧ True) ∧ True) := by kernel_rfl

set_option maxHeartbeats 4000000 in
theorem nxW (s : List UInt8) (hs : s.length ≤ 200) (h : 2 < s.length) (h0 : sb s 0 = 255) (h1 : 250 < sb s 1 ∧ sb s 1 ≠ 255)  :
    RunsTo Try.prog 29 [.code (bodyOf Try.f29)] (envOf [vS s] Try.f29.ntmps) (Sx.look ([] ++ ([]))) 80 (nxV ((tk 3 (sb s 1) (sb s 2) [], 3))) (Sx.look ([])) 200 := by
  have q0 := sb_lt s 0
  have q1 := sb_lt s 1
  have q2 := sb_lt s 2
  have u0 : IntKind.i64.wrap (sb s 0 : Int) = (sb s 0 : Int) := wr64 (by omega)
  have u1 : IntKind.i64.wrap (sb s 1 : Int) = (sb s 1 : Int) := wr64 (by omega)
  have u2 : IntKind.i64.wrap (sb s 2 : Int) = (sb s 2 : Int) := wr64 (by omega)
  refine runs_last baseS (Sx.Ends.of (nxW_p0 s) ⟨?oo, ?rr⟩) (by kernel_rfl) rfl (gtL (by decide)) (by decide)
  case oo =>
    refine (okc ?_ (okc ?_ (okc ?_ (okc ?_ (okc ?_ (okc ?_ (okc ?_ (okc ?_ (okc ?_ (okc ?_ okn))))))))))
    all_goals ((try simp (disch := omega) only [SS, u0, u1, u2, sb_def, Int.toNat_natCast]); first | done | omega | assumption | (simp (disch := omega) only [SS, u0, u1, u2, sb_def, Int.toNat_natCast] at *; first | done | omega | assumption) | (simp_all; done))
  case rr =>
    try simp (disch := omega) only [SS, u0, u1, u2, sb_def, Int.toNat_natCast]
    repeat' apply And.intro
    all_goals first | exact True.intro | with_reducible rfl | omega | (simp_all; done) | (simp [nxV, dtT, z0]; done) | rfl

theorem nxS_p0 (s : List UInt8) :
    isEnd (evTill Try.prog sumsS 300 (99) 900 29 [.code (bodyOf Try.f29)] (envOf [vS s] Try.f29.ntmps) ([] ++ ([])) ⟨[.s false, .s true, .s false, .s false, .s true, .s false, .s false, .s false, .s false, .s true], 80⟩) (endP ([]) (nxV (subR (sb s 2) (s.drop 3) [] 3)) ([]) 200) =
    (OkL [((↑s.length : Int) == (0 : Int), false), (decide ((0 : Int) ≤ (0 : Int) ∧ (0 : Int) < (↑s.length : Int)), true), ((↑(s.getD (0 : Nat) (0 : UInt8)).toNat : Int) != (255 : Int), false), ((↑s.length : Int) == (1 : Int), false), (decide ((0 : Int) ≤ (1 : Int) ∧ (1 : Int) < (↑s.length : Int)), true), (IntKind.i64.wrap (↑(s.getD (1 : Nat) (0 : UInt8)).toNat : Int) == (255 : Int), false), (decide (IntKind.i64.wrap (↑(s.getD (1 : Nat) (0 : UInt8)).toNat : Int) < (250 : Int)), false), ((↑s.length : Int) == (2 : Int), false), (decide (IntKind.i64.wrap (↑(s.getD (1 : Nat) (0 : UInt8)).toNat : Int) > (250 : Int)), false), (decide ((3 : Nat) ≤ s.length ∧ s.length ≤ (200 : Nat)), true)] ∧ (((↑(subR (sb s (2 : Nat)) (List.drop (3 : Nat) s) [] (3 : Nat)).1.1 : Int) = (↑(subR (sb s (2 : Nat)) (List.drop (3 : Nat) s) [] (3 : Nat)).1.1 : Int) ∧ (↑(subR (sb s (2 : Nat)) (List.drop (3 : Nat) s) [] (3 : Nat)).1.2 : Int) = (↑(subR (sb s (2 : Nat)) (List.drop (3 : Nat) s) [] (3 : Nat)).1.2 : Int) ∧ (↑(subR (sb s (2 : Nat)) (List.drop (3 : Nat) s) [] (3 : Nat)).1.3 : Int) = (↑(subR (sb s (2 : Nat)) (List.drop (3 : Nat) s) [] (3 : Nat)).1.3 : Int) ∧ (subR (sb s (2 : Nat)) (List.drop (3 : Nat) s) [] (3 : Nat)).1.4 = (subR (sb s (2 : Nat)) (List.drop (3 : Nat) s) [] (3 : Nat)).1.4 ∧ false = false) ∧ (↑(subR (sb s (2 : Nat)) (List.drop (3 : Nat) s) [] (3 : Nat)).2 : Int) = (↑(subR (sb s (2 : Nat)) (List.drop (3 : Nat) s) [] (3 : Nat)).2 : Int) ∧ True) ∧ True) := by kernel_rfl

set_option maxHeartbeats 4000000 in
theorem nxS (s : List UInt8) (hs : s.length ≤ 200) (h : 2 < s.length) (h0 : sb s 0 = 255) (h1 : sb s 1 = 250)  :
    RunsTo Try.prog 29 [.code (bodyOf Try.f29)] (envOf [vS s] Try.f29.ntmps) (Sx.look ([] ++ ([]))) 80 (nxV (subR (sb s 2) (s.drop 3) [] 3)) (Sx.look ([])) 200 := by
  have q0 := sb_lt s 0
  have q1 := sb_lt s 1
  have q2 := sb_lt s 2
  have u0 : IntKind.i64.wrap (sb s 0 : Int) = (sb s 0 : Int) := wr64 (by omega)
  have u1 : IntKind.i64.wrap (sb s 1 : Int) = (sb s 1 : Int) := wr64 (by omega)
  have u2 : IntKind.i64.wrap (sb s 2 : Int) = (sb s 2 : Int) := wr64 (by omega)
  refine runs_last baseS (Sx.Ends.of (nxS_p0 s) ⟨?oo, ?rr⟩) (by kernel_rfl) rfl (gtL (by decide)) (by decide)
  case oo =>
    refine (okc ?_ (okc ?_ (okc ?_ (okc ?_ (okc ?_ (okc ?_ (okc ?_ (okc ?_ (okc ?_ (okc ?_ okn))))))))))
    all_goals ((try simp (disch := omega) only [SS, u0, u1, u2, sb_def, Int.toNat_natCast]); first | done | omega | assumption | (simp (disch := omega) only [SS, u0, u1, u2, sb_def, Int.toNat_natCast] at *; first | done | omega | assumption) | (simp_all; done))
  case rr =>
    try simp (disch := omega) only [SS, u0, u1, u2, sb_def, Int.toNat_natCast]
    repeat' apply And.intro
    all_goals first | exact True.intro | with_reducible rfl | omega | (simp_all; done) | (simp [nxV, dtT, z0]; done) | rfl

theorem nxI (s : List UInt8) (hs : s.length ≤ 200) : RunsTo Try.prog 29 [.code (bodyOf Try.f29)] (envOf [vS s] Try.f29.ntmps) (Sx.look ([] ++ ([]))) 80 (nxV (nextR s)) (Sx.look []) 200 := by
  match s, hs with
  | [], hs => exact nx0 [] hs rfl
  | [c], hs =>
    by_cases h : sb [c] 0 = 255
    · have e : c = 255 := UInt8.toNat_inj.1 h
      have q := nx1 [c] hs rfl h
      subst e; exact q
    · have e : c ≠ 255 := fun q => h (by rw [q]; rfl)
      have q := nxD [c] hs (by simp) h
      rw [show nextR [c] = (tk 1 (sb [c] 0) 0 [], 1) by simp [nextR, e, tk, sb]]; exact q
  | c :: d :: r, hs =>
    by_cases h : sb (c :: d :: r) 0 = 255
    · have e : c = 255 := UInt8.toNat_inj.1 h
      subst e
      by_cases h1 : sb (255 :: d :: r) 1 = 255
      · have e : d = 255 := UInt8.toNat_inj.1 h1
        subst e
        rw [show nextR (255 :: 255 :: r) = (tk 1 255 0 [], 2) by simp [nextR, tk]]
        exact nxE _ hs (by simp) h h1
      · have e : d ≠ 255 := fun q => h1 (by rw [q]; rfl)
        have h1' : d.toNat ≠ 255 := h1
        have hd := d.toNat_lt
        by_cases h2 : d.toNat < 250
        · rw [show nextR (255 :: d :: r) = (tk 2 d.toNat 0 [], 2) by simp [nextR, e, h2, tk]]
          exact nxP _ hs (by simp) h h2
        · match r, hs, h, h1 with
          | [], hs, h, h1 =>
            rw [show nextR [255, d] = (z0, 0) by simp [nextR, e, h2]]
            exact nx2 _ hs rfl h ⟨by show 250 ≤ d.toNat; omega, h1⟩
          | x :: r3, hs, h, h1 =>
            by_cases h3 : 250 < d.toNat
            · rw [show nextR (255 :: d :: x :: r3) = (tk 3 d.toNat x.toNat [], 3) by simp [nextR, e, h2, h3, tk]]
              exact nxW _ hs (by simp) h ⟨h3, h1⟩
            · rw [show nextR (255 :: d :: x :: r3) = subR x.toNat r3 [] 3 by simp [nextR, e, h2, h3]]
              exact nxS _ hs (by simp) h (by show d.toNat = 250; omega)
    · have e : c ≠ 255 := fun q => h (by rw [q]; rfl)
      have q := nxD (c :: d :: r) hs (by simp) h
      rw [show nextR (c :: d :: r) = (tk 1 (sb (c :: d :: r) 0) 0 [], 1) by rw [nextR.eq_def]; simp [e, tk, sb]]; exact q
def nxP_ : PC := { args := [.v (.vs 0)], heap := [], gs := [], G := 0, tp := 999, n := 80, n' := 200, cond := fun e => decide ((eS e 0 []).length ≤ 200), v := fun e => nxV (nextR (eS e 0 [])), post := fun e => [] }
theorem nxP__pc : PC.Runs Try.prog 29 Try.f29 (bodyOf Try.f29) nxP_ := ⟨Try.func29, by kernel_rfl, (fun g hg => by first | (cases hg; done) | (revert g; show ∀ g ∈ ([] : List Nat), g < 0; decide)), fun e H hc => by
  have hc : (decide ((eS e 0 []).length ≤ 200)) = true := hc
  try simp only [Bool.and_eq_true, decide_eq_true_eq, Nat.beq_eq] at hc
  exact nxI (eS e 0 []) hc⟩
def sumsN : List (FuncId × Summ) := [(29, nxP_.summ 0)]
theorem baseN : Base0 Try.prog sumsN := (baseO.cons Try.func29 (by kernel_rfl) (PC.summ_ok nxP__pc gtopG))
theorem ksStart_p0 (s : List UInt8) :
    isMore (evTill Try.prog sumsN 300 (behind Try.f22 0) 900 22 [.code (bodyOf Try.f22)] (envOf [vS s] Try.f22.ntmps) ([] ++ ([])) ⟨[], 80⟩) (moreP (headOf Try.f22 0) ([((102 : Nat), Rn.to (80 : Nat)), ((103 : Nat), Rn.to (81 : Nat))]) Try.f22.ntmps ([(0, vS s), (4, vL 102 5 (([] : List Tok)).length), (5, vL 103 1 (([] : List Nat)).length), (6, vN (0 : Nat))]) (dE 102 (([] : List Tok)) ++ nE 103 (([] : List Nat))) 320) =
    (OkL [] ∧ headOf Try.f22 (0 : Nat) = headOf Try.f22 (0 : Nat) ∧ (s = s ∧ ((0 : Nat) = (0 : Nat) ∧ (0 : Nat) = (0 : Nat)) ∧ ((0 : Nat) = (0 : Nat) ∧ (0 : Nat) = (0 : Nat)) ∧ (↑(0 : Nat) : Int) = (0 : Int)) ∧ ((0 : Nat) = (0 : Nat) ∧ (∀ (i : Nat), i < (0 : Nat) → tK [] [i] = (0 : Int)) ∧ (∀ (i : Nat), i < (0 : Nat) → tC [] [i] = (0 : Int)) ∧ (∀ (i : Nat), i < (0 : Nat) → tO [] [i] = (0 : Int)) ∧ (∀ (i : Nat), i < (0 : Nat) → tS [] [i] = []) ∧ ∀ (i : Nat), i < (0 : Nat) → tU [i] = false) ∧ (0 : Nat) = (0 : Nat) ∧ ∀ (i : Nat), i < (0 : Nat) → lN [] [i] = (0 : Int)) := by kernel_rfl

set_option maxHeartbeats 4000000 in
theorem ksStart (s : List UInt8)  (v : SV) (L' : HF) (next : RunsTo Try.prog 22 (headOf Try.f22 0) (envAt Try.f22.ntmps ([(0, vS s), (4, vL 102 5 (([] : List Tok)).length), (5, vL 103 1 (([] : List Nat)).length), (6, vN (0 : Nat))])) (Sx.look ([] ++ (dE 102 (([] : List Tok)) ++ nE 103 (([] : List Nat))))) 80 (v) (L') 320) :
    RunsTo Try.prog 22 [.code (bodyOf Try.f22)] (envOf [vS s] Try.f22.ntmps) (Sx.look ([] ++ ([]))) 80 (v) (L') 320 := by
  refine runs_more baseN (More.of (ksStart_p0 s) ⟨?oo, rfl, ?rr⟩) (by kernel_rfl) (by kernel_rfl) rfl (gtL (by decide)) (by decide) next
  case oo =>
    clear next
    refine okn
    all_goals ((try simp (disch := omega) only [SS]); first | done | omega | assumption | (simp (disch := omega) only [SS] at *; first | done | omega | assumption) | (simp_all; done))
  case rr =>
    clear next
    try simp (disch := omega) only [SS]
    repeat' apply And.intro
    all_goals first | exact True.intro | with_reducible rfl | omega | (intros; first | exact True.intro | with_reducible rfl | omega | (simp_all; done)) | (simp_all; done) | rfl

theorem ksR_p0 (s : List UInt8) (T : List Tok) (E : List Nat) (i : Nat) (r : Tok × Nat) :
    isMore (evTill Try.prog sumsN 300 (behind Try.f22 0) 900 22 (headOf Try.f22 0) (envAt Try.f22.ntmps ([(0, vS s), (4, vL 102 5 (T).length), (5, vL 103 1 (E).length), (6, vN (i : Nat))])) ([] ++ (dE 102 (T) ++ nE 103 (E))) ⟨[.s true, .s true, .s false, .t, .s true, .s true, .t, .s true, .s true], 130⟩) (moreP (headOf Try.f22 0) ([((102 : Nat), Rn.to (252 : Nat)), ((103 : Nat), Rn.to (254 : Nat))]) Try.f22.ntmps ([(0, vS s), (4, vL 102 5 (T ++ [r.1]).length), (5, vL 103 1 (E ++ [i + r.2 - 1]).length), (6, vN (i + r.2 : Nat))]) (dE 102 (T ++ [r.1]) ++ nE 103 (E ++ [i + r.2 - 1])) 320) =
    (OkL [(decide ((0 : Int) ≤ (↑i : Int) ∧ (↑i : Int) ≤ (↑s.length : Int)), true), (decide ((List.drop (↑i : Int).toNat (List.take s.length s)).length ≤ (200 : Nat)), true), ((↑(nextR (List.drop (↑i : Int).toNat (List.take s.length s))).2 : Int) == (0 : Int), false), (((0 : Nat) + T.length).ble T.length, true), (decide (((2 : Nat) * (T.length + (1 : Nat)) + (192 : Nat)) * (48 : Nat) ≤ (281474976710656 : Nat)), true), (((0 : Nat) + E.length).ble E.length, true), (decide (((2 : Nat) * (E.length + (1 : Nat)) + (192 : Nat)) * (8 : Nat) ≤ (281474976710656 : Nat)), true)] ∧ headOf Try.f22 (0 : Nat) = headOf Try.f22 (0 : Nat) ∧ (s = s ∧ ((0 : Nat) = (0 : Nat) ∧ (T ++ [r.1]).length = T.length + (1 : Nat)) ∧ ((0 : Nat) = (0 : Nat) ∧ (E ++ [i + r.2 - (1 : Nat)]).length = E.length + (1 : Nat)) ∧ (↑(i + r.2) : Int) = IntKind.i64.wrap ((↑i : Int) + (↑(nextR (List.drop (↑i : Int).toNat (List.take s.length s))).2 : Int))) ∧ ((T ++ [r.1]).length = T.length + (1 : Nat) ∧ (∀ (i_1 : Nat), i_1 < (T ++ [r.1]).length → tK (T ++ [r.1]) [i_1] = appF T.length (0 : Nat) (tK T) (fun js => (↑(nextR (List.drop (↑i : Int).toNat (List.take s.length s))).1.1 : Int)) [i_1]) ∧ (∀ (i_1 : Nat), i_1 < (T ++ [r.1]).length → tC (T ++ [r.1]) [i_1] = appF T.length (0 : Nat) (tC T) (fun js => (↑(nextR (List.drop (↑i : Int).toNat (List.take s.length s))).1.2 : Int)) [i_1]) ∧ (∀ (i_1 : Nat), i_1 < (T ++ [r.1]).length → tO (T ++ [r.1]) [i_1] = appF T.length (0 : Nat) (tO T) (fun js => (↑(nextR (List.drop (↑i : Int).toNat (List.take s.length s))).1.3 : Int)) [i_1]) ∧ (∀ (i_1 : Nat), i_1 < (T ++ [r.1]).length → tS (T ++ [r.1]) [i_1] = appF T.length (0 : Nat) (tS T) (fun js => (nextR (List.drop (↑i : Int).toNat (List.take s.length s))).1.4) [i_1]) ∧ ∀ (i : Nat), i < (T ++ [r.1]).length → tU [i] = appF T.length (0 : Nat) tU (fun js => false) [i]) ∧ (E ++ [i + r.2 - (1 : Nat)]).length = E.length + (1 : Nat) ∧ ∀ (i_1 : Nat), i_1 < (E ++ [i + r.2 - (1 : Nat)]).length → lN (E ++ [i + r.2 - (1 : Nat)]) [i_1] = appF E.length (0 : Nat) (lN E) (fun js => IntKind.i64.wrap (IntKind.i64.wrap ((↑i : Int) + (↑(nextR (List.drop (↑i : Int).toNat (List.take s.length s))).2 : Int)) - (1 : Int))) [i_1]) := by kernel_rfl

set_option maxHeartbeats 4000000 in
theorem ksR (s : List UInt8) (T : List Tok) (E : List Nat) (i : Nat) (r : Tok × Nat) (hs : s.length ≤ 200) (hi : i ≤ s.length) (hT : T.length ≤ i) (hE : E.length ≤ i) (hr : nextR (s.drop i) = r) (hz : r.2 ≠ 0) (hle : i + r.2 ≤ s.length)  (v : SV) (L' : HF) (next : RunsTo Try.prog 22 (headOf Try.f22 0) (envAt Try.f22.ntmps ([(0, vS s), (4, vL 102 5 (T ++ [r.1]).length), (5, vL 103 1 (E ++ [i + r.2 - 1]).length), (6, vN (i + r.2 : Nat))])) (Sx.look ([] ++ (dE 102 (T ++ [r.1]) ++ nE 103 (E ++ [i + r.2 - 1])))) 80 (v) (L') 320) :
    RunsTo Try.prog 22 (headOf Try.f22 0) (envAt Try.f22.ntmps ([(0, vS s), (4, vL 102 5 (T).length), (5, vL 103 1 (E).length), (6, vN (i : Nat))])) (Sx.look ([] ++ (dE 102 (T) ++ nE 103 (E)))) 80 (v) (L') 320 := by
  have hl : (s.drop i).length ≤ 200 := by rw [List.length_drop]; omega
  have ht : List.take s.length s = s := List.take_length
  have hsum : IntKind.i64.wrap ((i : Int) + (r.2 : Int)) = ((i + r.2 : Nat) : Int) := by rw [wr64 (by omega)]; rfl
  have hen : IntKind.i64.wrap (((i + r.2 : Nat) : Int) - 1) = ((i + r.2 - 1 : Nat) : Int) := by rw [wr64 (by omega)]; omega
  refine runs_more baseN (More.of (ksR_p0 s T E i r) ⟨?oo, rfl, ?rr⟩) (by kernel_rfl) (by kernel_rfl) rfl (gtL (by decide)) (by decide) next
  case oo =>
    clear next
    refine (okc ?_ (okc ?_ (okc ?_ (okc ?_ (okc ?_ (okc ?_ (okc ?_ okn)))))))
    all_goals ((try simp (disch := omega) only [SS, ht, hl, hr, hsum, hen, Int.toNat_natCast]); first | done | omega | assumption | (simp (disch := omega) only [SS, ht, hl, hr, hsum, hen, Int.toNat_natCast] at *; first | done | omega | assumption) | (simp_all; done))
  case rr =>
    clear next
    simp (disch := omega) only [SS, ht, hl, hr, hsum, hen, Int.toNat_natCast, Go.Sx.sum, List.length_append, List.length_cons, List.length_nil, Nat.zero_add]
    repeat' apply And.intro
    all_goals first | exact True.intro | with_reducible rfl | omega | exact tKA T _ _ rfl | exact tCA T _ _ rfl | exact tOA T _ _ rfl | exact tSA T _ _ rfl | (intro k hk; exact tUA _ _ _ (fun _ => rfl) (fun _ => rfl) k) | exact lNA E _ _ rfl | (intros; simp_all; done) | (simp_all; done)

theorem ksE_p0 (s : List UInt8) (T : List Tok) (E : List Nat) (i : Nat) (r : Tok × Nat) :
    isEnd (evTill Try.prog sumsN 300 (99) 900 22 (headOf Try.f22 0) (envAt Try.f22.ntmps ([(0, vS s), (4, vL 102 5 (T).length), (5, vL 103 1 (E).length), (6, vN (i : Nat))])) ([] ++ (dE 102 (T) ++ nE 103 (E))) ⟨[.s true, .s true, .s true], 130⟩) (endP ([]) (.tup [(false, .vl 102 (fun _ => 0) 5 [] (fun _ => (T).length)), (false, .vl 103 (fun _ => 0) 1 [] (fun _ => (E).length))]) (dE 102 (T) ++ nE 103 (E)) 320) =
    (OkL [(decide ((0 : Int) ≤ (↑i : Int) ∧ (↑i : Int) ≤ (↑s.length : Int)), true), (decide ((List.drop (↑i : Int).toNat (List.take s.length s)).length ≤ (200 : Nat)), true), ((↑(nextR (List.drop (↑i : Int).toNat (List.take s.length s))).2 : Int) == (0 : Int), true)] ∧ (((0 : Nat) = (0 : Nat) ∧ T.length = T.length) ∧ ((0 : Nat) = (0 : Nat) ∧ E.length = E.length) ∧ True) ∧ (T.length = T.length ∧ (∀ (i : Nat), i < T.length → tK T [i] = tK T [i]) ∧ (∀ (i : Nat), i < T.length → tC T [i] = tC T [i]) ∧ (∀ (i : Nat), i < T.length → tO T [i] = tO T [i]) ∧ (∀ (i : Nat), i < T.length → tS T [i] = tS T [i]) ∧ ∀ (i : Nat), i < T.length → tU [i] = tU [i]) ∧ E.length = E.length ∧ ∀ (i : Nat), i < E.length → lN E [i] = lN E [i]) := by kernel_rfl

set_option maxHeartbeats 4000000 in
theorem ksE (s : List UInt8) (T : List Tok) (E : List Nat) (i : Nat) (r : Tok × Nat) (hs : s.length ≤ 200) (hi : i ≤ s.length) (hT : T.length ≤ i) (hE : E.length ≤ i) (hr : nextR (s.drop i) = r) (hz : r.2 = 0)  :
    RunsTo Try.prog 22 (headOf Try.f22 0) (envAt Try.f22.ntmps ([(0, vS s), (4, vL 102 5 (T).length), (5, vL 103 1 (E).length), (6, vN (i : Nat))])) (Sx.look ([] ++ (dE 102 (T) ++ nE 103 (E)))) 80 (.tup [(false, .vl 102 (fun _ => 0) 5 [] (fun _ => (T).length)), (false, .vl 103 (fun _ => 0) 1 [] (fun _ => (E).length))]) (Sx.look (dE 102 (T) ++ nE 103 (E))) 320 := by
  have hl : (s.drop i).length ≤ 200 := by rw [List.length_drop]; omega
  have ht : List.take s.length s = s := List.take_length
  refine runs_last baseN (Sx.Ends.of (ksE_p0 s T E i r) ⟨?oo, ?rr⟩) (by kernel_rfl) rfl (gtL (by decide)) (by decide)
  case oo =>
    refine (okc ?_ (okc ?_ (okc ?_ okn)))
    all_goals ((try simp (disch := omega) only [SS, ht, hl, hr, hz, Int.toNat_natCast]); first | done | omega | assumption | (simp (disch := omega) only [SS, ht, hl, hr, hz, Int.toNat_natCast] at *; first | done | omega | assumption) | (simp_all; done))
  case rr =>
    try simp (disch := omega) only [SS, ht, hl, hr, hz, Int.toNat_natCast]
    repeat' apply And.intro
    all_goals first | exact True.intro | with_reducible rfl | omega | (intros; first | exact True.intro | with_reducible rfl | omega | (simp_all; done)) | (simp_all; done) | rfl

theorem next_le (s : List UInt8) (h : (nextR s).2 ≠ 0) : (nextR s).2 ≤ s.length := ((next_ok s 0).2 h).1
theorem ksL (s : List UInt8) (hs : s.length ≤ 200) : ∀ (k i : Nat) (T : List Tok) (E : List Nat), i ≤ s.length → s.length - i < k → T.length ≤ i → E.length ≤ i → RunsTo Try.prog 22 (headOf Try.f22 0) (envAt Try.f22.ntmps ([(0, vS s), (4, vL 102 5 (T).length), (5, vL 103 1 (E).length), (6, vN (i : Nat))])) (Sx.look ([] ++ (dE 102 (T) ++ nE 103 (E)))) 80 (.tup [(false, .vl 102 (fun _ => 0) 5 [] (fun _ => (T ++ (toksR k i (s.drop i)).map Prod.fst).length)), (false, .vl 103 (fun _ => 0) 1 [] (fun _ => (E ++ (toksR k i (s.drop i)).map Prod.snd).length))]) (Sx.look (dE 102 (T ++ (toksR k i (s.drop i)).map Prod.fst) ++ nE 103 (E ++ (toksR k i (s.drop i)).map Prod.snd))) 320 := by
  intro k
  induction k with
  | zero => intro i T E hi hk; omega
  | succ k ih =>
    intro i T E hi hk hT hE
    have hd : (s.drop i).length = s.length - i := List.length_drop
    by_cases hz : (nextR (s.drop i)).2 = 0
    · simp only [toksR, hz, if_true, List.map_nil, List.append_nil]
      exact ksE s T E i _ hs hi hT hE rfl hz
    · have hle := next_le (s.drop i) hz
      simp only [toksR, hz, if_false, List.map_cons, List.drop_drop]
      rw [List.append_cons T, List.append_cons E]
      exact ksR s T E i _ hs hi hT hE rfl hz (by omega) _ _ (ih (i + (nextR (s.drop i)).2) _ _ (by omega) (by omega) (by simp; omega) (by simp; omega))
theorem ksI (s : List UInt8) (hs : s.length ≤ 200) : RunsTo Try.prog 22 [.code (bodyOf Try.f22)] (envOf [vS s] Try.f22.ntmps) (Sx.look ([] ++ ([]))) 80 (.tup [(false, .vl 102 (fun _ => 0) 5 [] (fun _ => ((toksR (s.length + 1) 0 s).map Prod.fst).length)), (false, .vl 103 (fun _ => 0) 1 [] (fun _ => ((toksR (s.length + 1) 0 s).map Prod.snd).length))]) (Sx.look (dE 102 ((toksR (s.length + 1) 0 s).map Prod.fst) ++ nE 103 ((toksR (s.length + 1) 0 s).map Prod.snd))) 320 := by
  have q := ksL s hs (s.length + 1) 0 [] [] (by omega) (by omega) (by simp) (by simp)
  rw [List.drop_zero, List.nil_append, List.nil_append] at q
  exact ksStart s _ _ q
def ksP : PC := { args := [.v (.vs 0)], heap := [], gs := [], G := 0, tp := 999, n := 80, n' := 320, cond := fun e => decide ((eS e 0 []).length ≤ 200), v := fun e => .tup [(false, .vl 102 (fun _ => 0) 5 [] (fun _ => ((toksR ((eS e 0 []).length + 1) 0 (eS e 0 [])).map Prod.fst).length)), (false, .vl 103 (fun _ => 0) 1 [] (fun _ => ((toksR ((eS e 0 []).length + 1) 0 (eS e 0 [])).map Prod.snd).length))], post := fun e => dE 102 ((toksR ((eS e 0 []).length + 1) 0 (eS e 0 [])).map Prod.fst) ++ nE 103 ((toksR ((eS e 0 []).length + 1) 0 (eS e 0 [])).map Prod.snd) }
theorem ksP_pc : PC.Runs Try.prog 22 Try.f22 (bodyOf Try.f22) ksP := ⟨Try.func22, by kernel_rfl, (fun g hg => by first | (cases hg; done) | (revert g; show ∀ g ∈ ([] : List Nat), g < 0; decide)), fun e H hc => by
  have hc : (decide ((eS e 0 []).length ≤ 200)) = true := hc
  try simp only [Bool.and_eq_true, decide_eq_true_eq, Nat.beq_eq] at hc
  exact ksI (eS e 0 []) hc⟩
end Go.Proofs.Ytcphocfnhekdaaa
