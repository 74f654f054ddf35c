/- Cleaning: the document's tokens. -/
import Derived.Test.YtcphocfnhekdaaaZaC
set_option linter.unusedSimpArgs false
set_option linter.unusedVariables false
set_option maxRecDepth 100000
namespace Go.Proofs.Ytcphocfnhekdaaa
open Go.Sx

open CleanR
def dtT (k c o : Nat) (b : List UInt8) : Tr := .tc (.vi .i64 fun _ => (k : Int)) (.tc (.vi .i64 fun _ => (c : Int)) (.tc (.vi .i64 fun _ => (o : Int)) (.tc (.vs fun _ => b) (.tc (.vb fun _ => false) .t0))))
def zObj (p : Nat) : List Ent := [⟨p, true, none, 5, dtT 0 0 0 []⟩]
def nxV (r : Tok × Nat) : SV := .tup [(true, dtT r.1.kind r.1.code r.1.opt r.1.body), (false, .vi .i64 fun _ => (r.2 : Int))]
def tS (T : List Tok) : Ix → List UInt8 := fun is => (T.getD (is.headD 0) z0).body
def dE (l : Nat) (T : List Tok) : List Ent := [⟨l, true, none, 5, .ta T.length (.tc (.vi .i64 (tK T)) (.tc (.vi .i64 (tC T)) (.tc (.vi .i64 (tO T)) (.tc (.vs (tS T)) (.tc (.vb tU) .t0)))))⟩]
def lN (E : List Nat) : Ix → Int := fun is => ((E.getD (is.headD 0) 0 : Nat) : Int)
def nE (l : Nat) (E : List Nat) : List Ent := [⟨l, true, none, 1, .ta E.length (.vi .i64 (lN E))⟩]
def sb (s : List UInt8) (i : Nat) : Nat := (s.getD i 0).toNat
theorem slice1 (s : List UInt8) {i : Nat} (h : i < s.length) : List.drop i (List.take (i + 1) s) = [s.getD i 0] := by
  rw [List.drop_take, show i + 1 - i = 1 by omega, List.drop_eq_getElem_cons h, List.take_succ_cons, List.take_zero]
  simp [List.getD_eq_getElem?_getD, List.getElem?_eq_getElem h]
theorem sb_lt (s : List UInt8) (i : Nat) : sb s i < 256 := UInt8.toNat_lt _
theorem sb_def (s : List UInt8) (i : Nat) : (s.getD i 0).toNat = sb s i := rfl
theorem sb_eq {s : List UInt8} {i : Nat} {c : UInt8} (h : sb s i = c.toNat) : s.getD i 0 = c := UInt8.toNat_inj.1 h
theorem drop_at (bs : List UInt8) {i : Nat} (h : i < bs.length) : bs.drop i = bs.getD i 0 :: bs.drop (i + 1) := by
  rw [List.drop_eq_getElem_cons h]; simp [List.getD_eq_getElem?_getD, List.getElem?_eq_getElem h]
theorem tokA {β : Type} (f : Tok → β) (T : List Tok) (t : Tok) (g : Ix → β) (hg : g [0] = f t) : ∀ k, k < T.length + 1 → f ((T ++ [t]).getD k z0) = appF T.length 0 (fun is => f (T.getD (is.headD 0) z0)) g [k] := fun k hk =>
  app_get f z0 T [t] g (fun j hj => by
    have : j = 0 := by simp at hj; omega
    subst this; exact hg) k (by simpa using hk)
theorem tKA (T : List Tok) (t : Tok) (g : Ix → Int) (hg : g [0] = (t.kind : Int)) : ∀ k, k < T.length + 1 → tK (T ++ [t]) [k] = appF T.length 0 (tK T) g [k] := tokA (fun t => (t.kind : Int)) T t g hg
theorem tCA (T : List Tok) (t : Tok) (g : Ix → Int) (hg : g [0] = (t.code : Int)) : ∀ k, k < T.length + 1 → tC (T ++ [t]) [k] = appF T.length 0 (tC T) g [k] := tokA (fun t => (t.code : Int)) T t g hg
theorem tOA (T : List Tok) (t : Tok) (g : Ix → Int) (hg : g [0] = (t.opt : Int)) : ∀ k, k < T.length + 1 → tO (T ++ [t]) [k] = appF T.length 0 (tO T) g [k] := tokA (fun t => (t.opt : Int)) T t g hg
theorem tSA (T : List Tok) (t : Tok) (g : Ix → List UInt8) (hg : g [0] = t.body) : ∀ k, k < T.length + 1 → tS (T ++ [t]) [k] = appF T.length 0 (tS T) g [k] := tokA (fun t => t.body) T t g hg
theorem tUA (n : Nat) (f g : Ix → Bool) (hf : ∀ is, f is = false) (hg : ∀ is, g is = false) : ∀ k, tU [k] = appF n 0 f g [k] := fun k => by
  simp only [appF]; split <;> simp [hf, hg, tU]
theorem lNA (E : List Nat) (x : Nat) (g : Ix → Int) (hg : g [0] = (x : Int)) : ∀ k, k < E.length + 1 → lN (E ++ [x]) [k] = appF E.length 0 (lN E) g [k] := fun k hk =>
  app_get (fun n : Nat => (n : Int)) 0 E [x] g (fun j hj => by
    have : j = 0 := by simp at hj; omega
    subst this; exact hg) k (by simpa using hk)
theorem sbStart_p0 (s : List UInt8) :
    isMore (evTill Try.prog [] 300 (behind Try.f34 0) 900 34 [.code (bodyOf Try.f34)] (envOf [vS s] Try.f34.ntmps) ([] ++ ([])) ⟨[], 80⟩) (moreP (headOf Try.f34 0) ([(101, Rn.to 80)]) Try.f34.ntmps ([(0, vS s), (2, vP 101), (4, vS (([] : List UInt8))), (5, vN (3 : Nat))]) (zObj 101) 170) =
    (OkL [] ∧ headOf Try.f34 0 = headOf Try.f34 0 ∧ (s = s ∧ 0 = 0 ∧ ([] : List UInt8) = [] ∧ (↑(3 : Nat) : Int) = (3 : Int)) ∧ (↑(0 : Nat) : Int) = (0 : Int) ∧ (↑(0 : Nat) : Int) = (0 : Int) ∧ (↑(0 : Nat) : Int) = (0 : Int) ∧ ([] : List UInt8) = [] ∧ false = false) := by kernel_rfl

set_option maxHeartbeats 4000000 in
theorem sbStart (s : List UInt8)  (v : SV) (L' : HF) (next : RunsTo Try.prog 34 (headOf Try.f34 0) (envAt Try.f34.ntmps ([(0, vS s), (2, vP 101), (4, vS (([] : List UInt8))), (5, vN (3 : Nat))])) (Sx.look ([] ++ (zObj 101))) 80 (v) (L') 170) :
    RunsTo Try.prog 34 [.code (bodyOf Try.f34)] (envOf [vS s] Try.f34.ntmps) (Sx.look ([] ++ ([]))) 80 (v) (L') 170 := by
  refine runs_more baseO (More.of (sbStart_p0 s) ⟨okn, rfl, ?_⟩) (by kernel_rfl) (by kernel_rfl) rfl (gtL (by decide)) (by decide) next
  all_goals clear next
  all_goals first | (refine And.intro ?_ ?_ <;> ((try simp (disch := omega) only [SS]); (repeat' apply And.intro); (all_goals first | exact True.intro | with_reducible rfl | omega | (intros; first | exact True.intro | with_reducible rfl | omega | (simp_all; done)) | (simp_all; done) | rfl))) | (((try simp (disch := omega) only [SS]); first | done | omega | assumption | (simp (disch := omega) only [SS] at *; first | done | omega | assumption) | (simp_all; done)))

theorem sbN_p0 (s b : List UInt8) (i : Nat) :
    isMore (evTill Try.prog [] 300 (behind Try.f34 0) 900 34 (headOf Try.f34 0) (envAt Try.f34.ntmps ([(0, vS s), (2, vP 101), (4, vS (b)), (5, vN (i : Nat))])) ([] ++ (zObj 101)) ⟨[.s true, .s true, .s true, .s true, .s true, .s true], 120⟩) (moreP (headOf Try.f34 0) ([]) Try.f34.ntmps ([(0, vS s), (2, vP 101), (4, vS (b ++ [s.getD i 0])), (5, vN (i + 1 : Nat))]) (zObj 101) 170) =
    (OkL [(decide ((i : Int) < (↑s.length : Int)), true), (decide ((0 : Int) ≤ (i : Int) ∧ (i : Int) < (↑s.length : Int)), true), ((↑(s.getD (i : Int).toNat (0 : UInt8)).toNat : Int) != (255 : Int), true), (decide ((0 : Int) ≤ IntKind.i64.wrap ((i : Int) + 1) ∧ IntKind.i64.wrap ((i : Int) + 1) ≤ (↑s.length : Int)), true), (decide ((0 : Int) ≤ (i : Int) ∧ (i : Int) ≤ IntKind.i64.wrap ((i : Int) + 1)), true), (decide (b.length + (List.drop (i : Int).toNat (List.take (IntKind.i64.wrap ((i : Int) + 1)).toNat s)).length ≤ (9223372036854775807 : Nat)), true)] ∧ headOf Try.f34 0 = headOf Try.f34 0 ∧ (s = s ∧ 0 = 0 ∧ b ++ [s.getD i (0 : UInt8)] = b ++ List.drop (i : Int).toNat (List.take (IntKind.i64.wrap ((i : Int) + 1)).toNat s) ∧ (↑(i + (1 : Nat)) : Int) = IntKind.i64.wrap ((i : Int) + 1)) ∧ (↑(0 : Nat) : Int) = (↑(0 : Nat) : Int) ∧ (↑(0 : Nat) : Int) = (↑(0 : Nat) : Int) ∧ (↑(0 : Nat) : Int) = (↑(0 : Nat) : Int) ∧ ([] : List UInt8) = [] ∧ false = false) := by kernel_rfl

set_option maxHeartbeats 4000000 in
theorem sbN (s b : List UInt8) (i : Nat) (h3 : 3 ≤ i) (hs : s.length ≤ 200) (hb : b.length ≤ i) (hi2 : i ≤ s.length) (hi : i < s.length) (h : sb s i ≠ 255)  (v : SV) (L' : HF) (next : RunsTo Try.prog 34 (headOf Try.f34 0) (envAt Try.f34.ntmps ([(0, vS s), (2, vP 101), (4, vS (b ++ [s.getD i 0])), (5, vN (i + 1 : Nat))])) (Sx.look ([] ++ (zObj 101))) 80 (v) (L') 170) :
    RunsTo Try.prog 34 (headOf Try.f34 0) (envAt Try.f34.ntmps ([(0, vS s), (2, vP 101), (4, vS (b)), (5, vN (i : Nat))])) (Sx.look ([] ++ (zObj 101))) 80 (v) (L') 170 := by
  have hw : IntKind.i64.wrap ((i : Int) + 1) = ((i + 1 : Nat) : Int) := by rw [wr64 (by omega)]; rfl
  have hw2 : IntKind.i64.wrap ((i : Int) + 2) = ((i + 2 : Nat) : Int) := by rw [wr64 (by omega)]; rfl
  have hm1 : IntKind.i64.wrap ((s.length : Int) - 1) = (s.length : Int) - 1 := wr64 (by omega)
  have q0 := sb_lt s i
  have q1 := sb_lt s (i + 1)
  have q2 := sb_lt s 2
  have u1 : IntKind.i64.wrap (sb s (i + 1) : Int) = (sb s (i + 1) : Int) := wr64 (by omega)
  have u2 : IntKind.i64.wrap (sb s 2 : Int) = (sb s 2 : Int) := wr64 (by omega)
  refine runs_more baseO (More.of (sbN_p0 s b i) ⟨(okc ?_ (okc ?_ (okc ?_ (okc ?_ (okc ?_ (okc ?_ okn)))))), rfl, ?_⟩) (by kernel_rfl) (by kernel_rfl) rfl (gtL (by decide)) (by decide) next
  all_goals clear next
  all_goals first | (refine And.intro ?_ ?_ <;> ((try simp (disch := omega) only [SS, hw, hw2, hm1, u1, u2, sb_def, slice1, Go.Sx.sum, Int.toNat_natCast, List.length_append, List.length_cons, List.length_nil]); (repeat' apply And.intro); (all_goals first | exact True.intro | with_reducible rfl | omega | (intros; first | exact True.intro | with_reducible rfl | omega | (simp_all; done)) | (simp_all; done) | rfl))) | (((try simp (disch := omega) only [SS, hw, hw2, hm1, u1, u2, sb_def, slice1, Go.Sx.sum, Int.toNat_natCast, List.length_append, List.length_cons, List.length_nil]); first | done | omega | assumption | (simp (disch := omega) only [SS, hw, hw2, hm1, u1, u2, sb_def, slice1, Go.Sx.sum, Int.toNat_natCast, List.length_append, List.length_cons, List.length_nil] at *; first | done | omega | assumption) | (simp_all; done)))

theorem sbQ_p0 (s b : List UInt8) (i : Nat) :
    isMore (evTill Try.prog [] 300 (behind Try.f34 0) 900 34 (headOf Try.f34 0) (envAt Try.f34.ntmps ([(0, vS s), (2, vP 101), (4, vS (b)), (5, vN (i : Nat))])) ([] ++ (zObj 101)) ⟨[.s true, .s true, .s false, .s false, .s true, .s true, .s true], 120⟩) (moreP (headOf Try.f34 0) ([]) Try.f34.ntmps ([(0, vS s), (2, vP 101), (4, vS (b ++ [255])), (5, vN (i + 2 : Nat))]) (zObj 101) 170) =
    (OkL [(decide ((i : Int) < (↑s.length : Int)), true), (decide ((0 : Int) ≤ (i : Int) ∧ (i : Int) < (↑s.length : Int)), true), ((↑(s.getD (i : Int).toNat (0 : UInt8)).toNat : Int) != (255 : Int), false), ((i : Int) == IntKind.i64.wrap ((↑s.length : Int) - 1), false), (decide ((0 : Int) ≤ IntKind.i64.wrap ((i : Int) + 1) ∧ IntKind.i64.wrap ((i : Int) + 1) < (↑s.length : Int)), true), ((↑(s.getD (IntKind.i64.wrap ((i : Int) + 1)).toNat (0 : UInt8)).toNat : Int) == 255, true), (decide (b.length + (1 : Nat) ≤ (9223372036854775807 : Nat)), true)] ∧ headOf Try.f34 0 = headOf Try.f34 0 ∧ (s = s ∧ 0 = 0 ∧ b ++ [(255 : UInt8)] = b ++ [(255 : UInt8)] ∧ (↑(i + (2 : Nat)) : Int) = IntKind.i64.wrap ((i : Int) + 2)) ∧ (↑(0 : Nat) : Int) = (↑(0 : Nat) : Int) ∧ (↑(0 : Nat) : Int) = (↑(0 : Nat) : Int) ∧ (↑(0 : Nat) : Int) = (↑(0 : Nat) : Int) ∧ ([] : List UInt8) = [] ∧ false = false) := by kernel_rfl

set_option maxHeartbeats 4000000 in
theorem sbQ (s b : List UInt8) (i : Nat) (h3 : 3 ≤ i) (hs : s.length ≤ 200) (hb : b.length ≤ i) (hi2 : i ≤ s.length) (hi : i + 1 < s.length) (h : sb s i = 255) (h2 : sb s (i + 1) = 255)  (v : SV) (L' : HF) (next : RunsTo Try.prog 34 (headOf Try.f34 0) (envAt Try.f34.ntmps ([(0, vS s), (2, vP 101), (4, vS (b ++ [255])), (5, vN (i + 2 : Nat))])) (Sx.look ([] ++ (zObj 101))) 80 (v) (L') 170) :
    RunsTo Try.prog 34 (headOf Try.f34 0) (envAt Try.f34.ntmps ([(0, vS s), (2, vP 101), (4, vS (b)), (5, vN (i : Nat))])) (Sx.look ([] ++ (zObj 101))) 80 (v) (L') 170 := by
  have hw : IntKind.i64.wrap ((i : Int) + 1) = ((i + 1 : Nat) : Int) := by rw [wr64 (by omega)]; rfl
  have hw2 : IntKind.i64.wrap ((i : Int) + 2) = ((i + 2 : Nat) : Int) := by rw [wr64 (by omega)]; rfl
  have hm1 : IntKind.i64.wrap ((s.length : Int) - 1) = (s.length : Int) - 1 := wr64 (by omega)
  have q0 := sb_lt s i
  have q1 := sb_lt s (i + 1)
  have q2 := sb_lt s 2
  have u1 : IntKind.i64.wrap (sb s (i + 1) : Int) = (sb s (i + 1) : Int) := wr64 (by omega)
  have u2 : IntKind.i64.wrap (sb s 2 : Int) = (sb s 2 : Int) := wr64 (by omega)
  refine runs_more baseO (More.of (sbQ_p0 s b i) ⟨(okc ?_ (okc ?_ (okc ?_ (okc ?_ (okc ?_ (okc ?_ (okc ?_ okn))))))), rfl, ?_⟩) (by kernel_rfl) (by kernel_rfl) rfl (gtL (by decide)) (by decide) next
  all_goals clear next
  all_goals first | (refine And.intro ?_ ?_ <;> ((try simp (disch := omega) only [SS, hw, hw2, hm1, u1, u2, sb_def, slice1, Go.Sx.sum, Int.toNat_natCast, List.length_append, List.length_cons, List.length_nil]); (repeat' apply And.intro); (all_goals first | exact True.intro | with_reducible rfl | omega | (intros; first | exact True.intro | with_reducible rfl | omega | (simp_all; done)) | (simp_all; done) | rfl))) | (((try simp (disch := omega) only [SS, hw, hw2, hm1, u1, u2, sb_def, slice1, Go.Sx.sum, Int.toNat_natCast, List.length_append, List.length_cons, List.length_nil]); first | done | omega | assumption | (simp (disch := omega) only [SS, hw, hw2, hm1, u1, u2, sb_def, slice1, Go.Sx.sum, Int.toNat_natCast, List.length_append, List.length_cons, List.length_nil] at *; first | done | omega | assumption) | (simp_all; done)))

theorem sbCut_p0 (s b : List UInt8) (i : Nat) :
    isEnd (evTill Try.prog [] 300 (99) 900 34 (headOf Try.f34 0) (envAt Try.f34.ntmps ([(0, vS s), (2, vP 101), (4, vS (b)), (5, vN (i : Nat))])) ([] ++ (zObj 101)) ⟨[.s true, .s true, .s false, .s true], 120⟩) (endP ([]) (nxV (z0, 0)) ([]) 170) =
    (OkL [(decide ((i : Int) < (↑s.length : Int)), true), (decide ((0 : Int) ≤ (i : Int) ∧ (i : Int) < (↑s.length : Int)), true), ((↑(s.getD (i : Int).toNat (0 : UInt8)).toNat : Int) != (255 : Int), false), ((i : Int) == IntKind.i64.wrap ((↑s.length : Int) - 1), true)] ∧ (((↑(0 : Nat) : Int) = (0 : Int) ∧ (↑(0 : Nat) : Int) = (0 : Int) ∧ (↑(0 : Nat) : Int) = (0 : Int) ∧ ([] : List UInt8) = [] ∧ false = false) ∧ (↑(0 : Nat) : Int) = (0 : Int) ∧ True) ∧ True) := by kernel_rfl

set_option maxHeartbeats 4000000 in
theorem sbCut (s b : List UInt8) (i : Nat) (h3 : 3 ≤ i) (hs : s.length ≤ 200) (hb : b.length ≤ i) (hi2 : i ≤ s.length) (hi : i + 1 = s.length) (h : sb s i = 255)  :
    RunsTo Try.prog 34 (headOf Try.f34 0) (envAt Try.f34.ntmps ([(0, vS s), (2, vP 101), (4, vS (b)), (5, vN (i : Nat))])) (Sx.look ([] ++ (zObj 101))) 80 (nxV (z0, 0)) (Sx.look ([])) 170 := by
  have hw : IntKind.i64.wrap ((i : Int) + 1) = ((i + 1 : Nat) : Int) := by rw [wr64 (by omega)]; rfl
  have hw2 : IntKind.i64.wrap ((i : Int) + 2) = ((i + 2 : Nat) : Int) := by rw [wr64 (by omega)]; rfl
  have hm1 : IntKind.i64.wrap ((s.length : Int) - 1) = (s.length : Int) - 1 := wr64 (by omega)
  have q0 := sb_lt s i
  have q1 := sb_lt s (i + 1)
  have q2 := sb_lt s 2
  have u1 : IntKind.i64.wrap (sb s (i + 1) : Int) = (sb s (i + 1) : Int) := wr64 (by omega)
  have u2 : IntKind.i64.wrap (sb s 2 : Int) = (sb s 2 : Int) := wr64 (by omega)
  refine runs_last baseO (Sx.Ends.of (sbCut_p0 s b i) ⟨(okc ?_ (okc ?_ (okc ?_ (okc ?_ okn)))), ?_⟩) (by kernel_rfl) rfl (gtL (by decide)) (by decide)
  all_goals first | (refine And.intro ?_ ?_ <;> ((try simp (disch := omega) only [SS, hw, hw2, hm1, u1, u2, sb_def, slice1, Go.Sx.sum, Int.toNat_natCast, List.length_append, List.length_cons, List.length_nil]); (repeat' apply And.intro); (all_goals first | exact True.intro | with_reducible rfl | omega | (simp_all; done) | (simp [nxV, dtT, z0]; done) | rfl))) | (((try simp (disch := omega) only [SS, hw, hw2, hm1, u1, u2, sb_def, slice1, Go.Sx.sum, Int.toNat_natCast, List.length_append, List.length_cons, List.length_nil]); first | done | omega | assumption | (simp (disch := omega) only [SS, hw, hw2, hm1, u1, u2, sb_def, slice1, Go.Sx.sum, Int.toNat_natCast, List.length_append, List.length_cons, List.length_nil] at *; first | done | omega | assumption) | (simp_all; done)))

theorem sbS_p0 (s b : List UInt8) (i : Nat) :
    isEnd (evTill Try.prog [] 300 (99) 900 34 (headOf Try.f34 0) (envAt Try.f34.ntmps ([(0, vS s), (2, vP 101), (4, vS (b)), (5, vN (i : Nat))])) ([] ++ (zObj 101)) ⟨[.s true, .s true, .s false, .s false, .s true, .s false, .s true, .s true, .s false], 120⟩) (endP ([]) (nxV (tk 4 0 (sb s 2) b, i + 2)) ([]) 170) =
    (OkL [(decide ((i : Int) < (↑s.length : Int)), true), (decide ((0 : Int) ≤ (i : Int) ∧ (i : Int) < (↑s.length : Int)), true), ((↑(s.getD (i : Int).toNat (0 : UInt8)).toNat : Int) != (255 : Int), false), ((i : Int) == IntKind.i64.wrap ((↑s.length : Int) - 1), false), (decide ((0 : Int) ≤ IntKind.i64.wrap ((i : Int) + 1) ∧ IntKind.i64.wrap ((i : Int) + 1) < (↑s.length : Int)), true), ((↑(s.getD (IntKind.i64.wrap ((i : Int) + 1)).toNat (0 : UInt8)).toNat : Int) == 255, false), ((↑(s.getD (IntKind.i64.wrap ((i : Int) + 1)).toNat (0 : UInt8)).toNat : Int) == 240, true), (decide ((0 : Int) ≤ 2 ∧ (2 : Int) < (↑s.length : Int)), true), (decide ((↑b.length : Int) > 256), false)] ∧ (((↑(4 : Nat) : Int) = (4 : Int) ∧ (↑(0 : Nat) : Int) = (0 : Int) ∧ (↑(sb s (2 : Nat)) : Int) = IntKind.i64.wrap (↑(s.getD (2 : Nat) (0 : UInt8)).toNat : Int) ∧ b = b ∧ false = false) ∧ (↑(i + (2 : Nat)) : Int) = IntKind.i64.wrap ((i : Int) + 2) ∧ True) ∧ True) := by kernel_rfl

set_option maxHeartbeats 4000000 in
theorem sbS (s b : List UInt8) (i : Nat) (h3 : 3 ≤ i) (hs : s.length ≤ 200) (hb : b.length ≤ i) (hi2 : i ≤ s.length) (hi : i + 1 < s.length) (h : sb s i = 255) (h2 : sb s (i + 1) = 240)  :
    RunsTo Try.prog 34 (headOf Try.f34 0) (envAt Try.f34.ntmps ([(0, vS s), (2, vP 101), (4, vS (b)), (5, vN (i : Nat))])) (Sx.look ([] ++ (zObj 101))) 80 (nxV (tk 4 0 (sb s 2) b, i + 2)) (Sx.look ([])) 170 := by
  have hw : IntKind.i64.wrap ((i : Int) + 1) = ((i + 1 : Nat) : Int) := by rw [wr64 (by omega)]; rfl
  have hw2 : IntKind.i64.wrap ((i : Int) + 2) = ((i + 2 : Nat) : Int) := by rw [wr64 (by omega)]; rfl
  have hm1 : IntKind.i64.wrap ((s.length : Int) - 1) = (s.length : Int) - 1 := wr64 (by omega)
  have q0 := sb_lt s i
  have q1 := sb_lt s (i + 1)
  have q2 := sb_lt s 2
  have u1 : IntKind.i64.wrap (sb s (i + 1) : Int) = (sb s (i + 1) : Int) := wr64 (by omega)
  have u2 : IntKind.i64.wrap (sb s 2 : Int) = (sb s 2 : Int) := wr64 (by omega)
  refine runs_last baseO (Sx.Ends.of (sbS_p0 s b i) ⟨(okc ?_ (okc ?_ (okc ?_ (okc ?_ (okc ?_ (okc ?_ (okc ?_ (okc ?_ (okc ?_ okn))))))))), ?_⟩) (by kernel_rfl) rfl (gtL (by decide)) (by decide)
  all_goals first | (refine And.intro ?_ ?_ <;> ((try simp (disch := omega) only [SS, hw, hw2, hm1, u1, u2, sb_def, slice1, Go.Sx.sum, Int.toNat_natCast, List.length_append, List.length_cons, List.length_nil]); (repeat' apply And.intro); (all_goals first | exact True.intro | with_reducible rfl | omega | (simp_all; done) | (simp [nxV, dtT, z0]; done) | rfl))) | (((try simp (disch := omega) only [SS, hw, hw2, hm1, u1, u2, sb_def, slice1, Go.Sx.sum, Int.toNat_natCast, List.length_append, List.length_cons, List.length_nil]); first | done | omega | assumption | (simp (disch := omega) only [SS, hw, hw2, hm1, u1, u2, sb_def, slice1, Go.Sx.sum, Int.toNat_natCast, List.length_append, List.length_cons, List.length_nil] at *; first | done | omega | assumption) | (simp_all; done)))

theorem sbB_p0 (s b : List UInt8) (i : Nat) :
    isEnd (evTill Try.prog [] 300 (99) 900 34 (headOf Try.f34 0) (envAt Try.f34.ntmps ([(0, vS s), (2, vP 101), (4, vS (b)), (5, vN (i : Nat))])) ([] ++ (zObj 101)) ⟨[.s true, .s true, .s false, .s false, .s true, .s false, .s false, .s true], 120⟩) (endP ([]) (nxV (tk 5 (sb s (i + 1)) (sb s 2) [], i + 2)) ([]) 170) =
    (OkL [(decide ((i : Int) < (↑s.length : Int)), true), (decide ((0 : Int) ≤ (i : Int) ∧ (i : Int) < (↑s.length : Int)), true), ((↑(s.getD (i : Int).toNat (0 : UInt8)).toNat : Int) != (255 : Int), false), ((i : Int) == IntKind.i64.wrap ((↑s.length : Int) - 1), false), (decide ((0 : Int) ≤ IntKind.i64.wrap ((i : Int) + 1) ∧ IntKind.i64.wrap ((i : Int) + 1) < (↑s.length : Int)), true), ((↑(s.getD (IntKind.i64.wrap ((i : Int) + 1)).toNat (0 : UInt8)).toNat : Int) == 255, false), ((↑(s.getD (IntKind.i64.wrap ((i : Int) + 1)).toNat (0 : UInt8)).toNat : Int) == 240, false), (decide ((0 : Int) ≤ 2 ∧ (2 : Int) < (↑s.length : Int)), true)] ∧ (((↑(5 : Nat) : Int) = (5 : Int) ∧ (↑(sb s (i + (1 : Nat))) : Int) = IntKind.i64.wrap (↑(s.getD (IntKind.i64.wrap ((i : Int) + 1)).toNat (0 : UInt8)).toNat : Int) ∧ (↑(sb s (2 : Nat)) : Int) = IntKind.i64.wrap (↑(s.getD (2 : Nat) (0 : UInt8)).toNat : Int) ∧ ([] : List UInt8) = [] ∧ false = false) ∧ (↑(i + (2 : Nat)) : Int) = IntKind.i64.wrap ((i : Int) + 2) ∧ True) ∧ True) := by kernel_rfl

set_option maxHeartbeats 4000000 in
theorem sbB (s b : List UInt8) (i : Nat) (h3 : 3 ≤ i) (hs : s.length ≤ 200) (hb : b.length ≤ i) (hi2 : i ≤ s.length) (hi : i + 1 < s.length) (h : sb s i = 255) (h2 : sb s (i + 1) ≠ 240) (h4 : sb s (i + 1) ≠ 255)  :
    RunsTo Try.prog 34 (headOf Try.f34 0) (envAt Try.f34.ntmps ([(0, vS s), (2, vP 101), (4, vS (b)), (5, vN (i : Nat))])) (Sx.look ([] ++ (zObj 101))) 80 (nxV (tk 5 (sb s (i + 1)) (sb s 2) [], i + 2)) (Sx.look ([])) 170 := by
  have hw : IntKind.i64.wrap ((i : Int) + 1) = ((i + 1 : Nat) : Int) := by rw [wr64 (by omega)]; rfl
  have hw2 : IntKind.i64.wrap ((i : Int) + 2) = ((i + 2 : Nat) : Int) := by rw [wr64 (by omega)]; rfl
  have hm1 : IntKind.i64.wrap ((s.length : Int) - 1) = (s.length : Int) - 1 := wr64 (by omega)
  have q0 := sb_lt s i
  have q1 := sb_lt s (i + 1)
  have q2 := sb_lt s 2
  have u1 : IntKind.i64.wrap (sb s (i + 1) : Int) = (sb s (i + 1) : Int) := wr64 (by omega)
  have u2 : IntKind.i64.wrap (sb s 2 : Int) = (sb s 2 : Int) := wr64 (by omega)
  refine runs_last baseO (Sx.Ends.of (sbB_p0 s b i) ⟨(okc ?_ (okc ?_ (okc ?_ (okc ?_ (okc ?_ (okc ?_ (okc ?_ (okc ?_ okn)))))))), ?_⟩) (by kernel_rfl) rfl (gtL (by decide)) (by decide)
  all_goals first | (refine And.intro ?_ ?_ <;> ((try simp (disch := omega) only [SS, hw, hw2, hm1, u1, u2, sb_def, slice1, Go.Sx.sum, Int.toNat_natCast, List.length_append, List.length_cons, List.length_nil]); (repeat' apply And.intro); (all_goals first | exact True.intro | with_reducible rfl | omega | (simp_all; done) | (simp [nxV, dtT, z0]; done) | rfl))) | (((try simp (disch := omega) only [SS, hw, hw2, hm1, u1, u2, sb_def, slice1, Go.Sx.sum, Int.toNat_natCast, List.length_append, List.length_cons, List.length_nil]); first | done | omega | assumption | (simp (disch := omega) only [SS, hw, hw2, hm1, u1, u2, sb_def, slice1, Go.Sx.sum, Int.toNat_natCast, List.length_append, List.length_cons, List.length_nil] at *; first | done | omega | assumption) | (simp_all; done)))

theorem sbE_p0 (s b : List UInt8) (i : Nat) :
    isEnd (evTill Try.prog [] 300 (99) 900 34 (headOf Try.f34 0) (envAt Try.f34.ntmps ([(0, vS s), (2, vP 101), (4, vS (b)), (5, vN (i : Nat))])) ([] ++ (zObj 101)) ⟨[.s false], 120⟩) (endP ([]) (nxV (z0, 0)) ([]) 170) =
    (OkL [(decide ((i : Int) < (↑s.length : Int)), false)] ∧ (((↑(0 : Nat) : Int) = (0 : Int) ∧ (↑(0 : Nat) : Int) = (0 : Int) ∧ (↑(0 : Nat) : Int) = (0 : Int) ∧ ([] : List UInt8) = [] ∧ false = false) ∧ (↑(0 : Nat) : Int) = (0 : Int) ∧ True) ∧ True) := by kernel_rfl

set_option maxHeartbeats 4000000 in
theorem sbE (s b : List UInt8) (i : Nat) (h3 : 3 ≤ i) (hs : s.length ≤ 200) (hb : b.length ≤ i) (hi2 : i ≤ s.length) (hi : i = s.length)  :
    RunsTo Try.prog 34 (headOf Try.f34 0) (envAt Try.f34.ntmps ([(0, vS s), (2, vP 101), (4, vS (b)), (5, vN (i : Nat))])) (Sx.look ([] ++ (zObj 101))) 80 (nxV (z0, 0)) (Sx.look ([])) 170 := by
  have hw : IntKind.i64.wrap ((i : Int) + 1) = ((i + 1 : Nat) : Int) := by rw [wr64 (by omega)]; rfl
  have hw2 : IntKind.i64.wrap ((i : Int) + 2) = ((i + 2 : Nat) : Int) := by rw [wr64 (by omega)]; rfl
  have hm1 : IntKind.i64.wrap ((s.length : Int) - 1) = (s.length : Int) - 1 := wr64 (by omega)
  have q0 := sb_lt s i
  have q1 := sb_lt s (i + 1)
  have q2 := sb_lt s 2
  have u1 : IntKind.i64.wrap (sb s (i + 1) : Int) = (sb s (i + 1) : Int) := wr64 (by omega)
  have u2 : IntKind.i64.wrap (sb s 2 : Int) = (sb s 2 : Int) := wr64 (by omega)
  refine runs_last baseO (Sx.Ends.of (sbE_p0 s b i) ⟨(okc ?_ okn), ?_⟩) (by kernel_rfl) rfl (gtL (by decide)) (by decide)
  all_goals first | (refine And.intro ?_ ?_ <;> ((try simp (disch := omega) only [SS, hw, hw2, hm1, u1, u2, sb_def, slice1, Go.Sx.sum, Int.toNat_natCast, List.length_append, List.length_cons, List.length_nil]); (repeat' apply And.intro); (all_goals first | exact True.intro | with_reducible rfl | omega | (simp_all; done) | (simp [nxV, dtT, z0]; done) | rfl))) | (((try simp (disch := omega) only [SS, hw, hw2, hm1, u1, u2, sb_def, slice1, Go.Sx.sum, Int.toNat_natCast, List.length_append, List.length_cons, List.length_nil]); first | done | omega | assumption | (simp (disch := omega) only [SS, hw, hw2, hm1, u1, u2, sb_def, slice1, Go.Sx.sum, Int.toNat_natCast, List.length_append, List.length_cons, List.length_nil] at *; first | done | omega | assumption) | (simp_all; done)))

theorem sub_n {c : UInt8} (o : Nat) (r b : List UInt8) (i : Nat) (h : c ≠ 255) : subR o (c :: r) b i = subR o r (b ++ [c]) (i + 1) := by rw [subR.eq_def]; simp [h]
theorem sbL_x (o : Nat) (b : List UInt8) (i : Nat) (d : UInt8) (r : List UInt8) : (d = 255 → subR o (255 :: d :: r) b i = subR o r (b ++ [255]) (i + 2)) ∧ (d = 240 → subR o (255 :: d :: r) b i = (tk 4 0 o b, i + 2)) ∧ (d ≠ 255 → d ≠ 240 → subR o (255 :: d :: r) b i = (tk 5 d.toNat o [], i + 2)) := by
  refine ⟨fun h => ?_, fun h => ?_, fun h h2 => ?_⟩
  · subst h; simp [subR]
  · subst h; simp [subR, tk]
  · simp [subR, h, h2, tk]
theorem sbL (s : List UInt8) (hs : s.length ≤ 200) : ∀ (k i : Nat) (b : List UInt8), s.length - i ≤ k → 3 ≤ i → i ≤ s.length → b.length ≤ i → RunsTo Try.prog 34 (headOf Try.f34 0) (envAt Try.f34.ntmps ([(0, vS s), (2, vP 101), (4, vS (b)), (5, vN (i : Nat))])) (Sx.look ([] ++ (zObj 101))) 80 (nxV (subR (sb s 2) (s.drop i) b i)) (Sx.look []) 170 := by
  intro k
  induction k with
  | zero =>
    intro i b hk h3 hi hb
    rw [show s.drop i = [] from List.drop_eq_nil_of_le (by omega)]
    exact sbE s b i h3 hs hb hi (by omega)
  | succ k ih =>
    intro i b hk h3 hi hb
    by_cases he : i = s.length
    · rw [show s.drop i = [] from List.drop_eq_nil_of_le (by omega)]
      exact sbE s b i h3 hs hb hi he
    · have hd := drop_at s (i := i) (by omega)
      by_cases h : sb s i = 255
      · have e := sb_eq (c := 255) h
        by_cases h1 : i + 1 = s.length
        · rw [hd, e, show s.drop (i + 1) = [] from List.drop_eq_nil_of_le (by omega)]
          exact sbCut s b i h3 hs hb hi h1 h
        · have hd1 := drop_at s (i := i + 1) (by omega)
          have ex := sbL_x (sb s 2) b i (s.getD (i + 1) 0) (s.drop (i + 1 + 1))
          rw [hd, e, hd1]
          by_cases h2 : sb s (i + 1) = 255
          · rw [ex.1 (sb_eq (c := 255) h2)]
            exact sbQ s b i h3 hs hb hi (by omega) h h2 _ _ (ih (i + 2) _ (by omega) (by omega) (by omega) (by simp; omega))
          · by_cases h4 : sb s (i + 1) = 240
            · rw [ex.2.1 (sb_eq (c := 240) h4)]
              exact sbS s b i h3 hs hb hi (by omega) h h4
            · rw [ex.2.2 (fun q => h2 (by show (s.getD (i + 1) 0).toNat = 255; rw [q]; rfl)) (fun q => h4 (by show (s.getD (i + 1) 0).toNat = 240; rw [q]; rfl))]
              exact sbB s b i h3 hs hb hi (by omega) h h4 h2
      · rw [hd, sub_n _ _ _ _ (fun q => h (by show (s.getD i 0).toNat = 255; rw [q]; rfl))]
        exact sbN s b i h3 hs hb hi (by omega) h _ _ (ih (i + 1) _ (by omega) (by omega) (by omega) (by simp; omega))
theorem sbI (s : List UInt8) (h : 3 ≤ s.length ∧ s.length ≤ 200) : RunsTo Try.prog 34 [.code (bodyOf Try.f34)] (envOf [vS s] Try.f34.ntmps) (Sx.look ([] ++ ([]))) 80 (nxV (subR (sb s 2) (s.drop 3) [] 3)) (Sx.look []) 170 := sbStart s _ _ (sbL s h.2 s.length 3 [] (by omega) (by omega) h.1 (by simp))
def sbP : PC := { args := [.v (.vs 0)], heap := [], gs := [], G := 0, tp := 999, n := 80, n' := 170, cond := fun e => decide (3 ≤ (eS e 0 []).length ∧ (eS e 0 []).length ≤ 200), v := fun e => nxV (subR (sb (eS e 0 []) 2) ((eS e 0 []).drop 3) [] 3), post := fun e => [] }
theorem sbP_pc : PC.Runs Try.prog 34 Try.f34 (bodyOf Try.f34) sbP := ⟨Try.func34, by kernel_rfl, (fun g hg => by first | (cases hg; done) | (revert g; show ∀ g ∈ ([] : List Nat), g < 0; decide)), fun e H hc => by
  have hc : (decide (3 ≤ (eS e 0 []).length ∧ (eS e 0 []).length ≤ 200)) = true := hc
  try simp only [Bool.and_eq_true, decide_eq_true_eq, Nat.beq_eq] at hc
  exact sbI (eS e 0 []) hc⟩
def sumsS : List (FuncId × Summ) := [(34, sbP.summ 0)]
theorem baseS : Base0 Try.prog sumsS := (baseO.cons Try.func34 (by kernel_rfl) (PC.summ_ok sbP_pc gtopG))
theorem nx0_p0 (s : List UInt8) :
    isEnd (evTill Try.prog sumsS 300 (99) 900 29 [.code (bodyOf Try.f29)] (envOf [vS s] Try.f29.ntmps) ([] ++ ([])) ⟨[.s true], 80⟩) (endP ([]) (nxV ((z0, 0))) ([]) 200) =
    (OkL [((↑s.length : Int) == 0, true)] ∧ (((↑(0 : Nat) : Int) = (0 : Int) ∧ (↑(0 : Nat) : Int) = (0 : Int) ∧ (↑(0 : Nat) : Int) = (0 : Int) ∧ ([] : List UInt8) = [] ∧ false = false) ∧ (↑(0 : Nat) : Int) = (0 : Int) ∧ True) ∧ True) := by kernel_rfl

set_option maxHeartbeats 4000000 in
theorem nx0 (s : List UInt8) (hs : s.length ≤ 200) (h : s.length = 0)  :
    RunsTo Try.prog 29 [.code (bodyOf Try.f29)] (envOf [vS s] Try.f29.ntmps) (Sx.look ([] ++ ([]))) 80 (nxV ((z0, 0))) (Sx.look ([])) 200 := by
  have q0 := sb_lt s 0
  have q1 := sb_lt s 1
  have q2 := sb_lt s 2
  have u0 : IntKind.i64.wrap (sb s 0 : Int) = (sb s 0 : Int) := wr64 (by omega)
  have u1 : IntKind.i64.wrap (sb s 1 : Int) = (sb s 1 : Int) := wr64 (by omega)
  have u2 : IntKind.i64.wrap (sb s 2 : Int) = (sb s 2 : Int) := wr64 (by omega)
  refine runs_last baseS (Sx.Ends.of (nx0_p0 s) ⟨(okc ?_ okn), ?_⟩) (by kernel_rfl) rfl (gtL (by decide)) (by decide)
  all_goals first | (refine And.intro ?_ ?_ <;> ((try simp (disch := omega) only [SS, u0, u1, u2, sb_def, Int.toNat_natCast]); (repeat' apply And.intro); (all_goals first | exact True.intro | with_reducible rfl | omega | (simp_all; done) | (simp [nxV, dtT, z0]; done) | rfl))) | (((try simp (disch := omega) only [SS, u0, u1, u2, sb_def, Int.toNat_natCast]); first | done | omega | assumption | (simp (disch := omega) only [SS, u0, u1, u2, sb_def, Int.toNat_natCast] at *; first | done | omega | assumption) | (simp_all; done)))

theorem nxD_p0 (s : List UInt8) :
    isEnd (evTill Try.prog sumsS 300 (99) 900 29 [.code (bodyOf Try.f29)] (envOf [vS s] Try.f29.ntmps) ([] ++ ([])) ⟨[.s false, .s true, .s true, .s true], 80⟩) (endP ([]) (nxV ((tk 1 (sb s 0) 0 [], 1))) ([]) 200) =
    (OkL [((↑s.length : Int) == 0, false), (decide ((0 : Int) ≤ 0 ∧ (0 : Int) < (↑s.length : Int)), true), ((↑(s.getD (0 : Nat) (0 : UInt8)).toNat : Int) != (255 : Int), true), (decide ((0 : Int) ≤ 0 ∧ (0 : Int) < (↑s.length : Int)), true)] ∧ (((↑(1 : Nat) : Int) = (1 : Int) ∧ (↑(sb s (0 : Nat)) : Int) = IntKind.i64.wrap (↑(s.getD (0 : Nat) (0 : UInt8)).toNat : Int) ∧ (↑(0 : Nat) : Int) = (0 : Int) ∧ ([] : List UInt8) = [] ∧ false = false) ∧ (↑(1 : Nat) : Int) = (1 : Int) ∧ True) ∧ True) := by kernel_rfl

set_option maxHeartbeats 4000000 in
theorem nxD (s : List UInt8) (hs : s.length ≤ 200) (h : 0 < s.length) (h0 : sb s 0 ≠ 255)  :
    RunsTo Try.prog 29 [.code (bodyOf Try.f29)] (envOf [vS s] Try.f29.ntmps) (Sx.look ([] ++ ([]))) 80 (nxV ((tk 1 (sb s 0) 0 [], 1))) (Sx.look ([])) 200 := by
  have q0 := sb_lt s 0
  have q1 := sb_lt s 1
  have q2 := sb_lt s 2
  have u0 : IntKind.i64.wrap (sb s 0 : Int) = (sb s 0 : Int) := wr64 (by omega)
  have u1 : IntKind.i64.wrap (sb s 1 : Int) = (sb s 1 : Int) := wr64 (by omega)
  have u2 : IntKind.i64.wrap (sb s 2 : Int) = (sb s 2 : Int) := wr64 (by omega)
  refine runs_last baseS (Sx.Ends.of (nxD_p0 s) ⟨(okc ?_ (okc ?_ (okc ?_ (okc ?_ okn)))), ?_⟩) (by kernel_rfl) rfl (gtL (by decide)) (by decide)
  all_goals first | (refine And.intro ?_ ?_ <;> ((try simp (disch := omega) only [SS, u0, u1, u2, sb_def, Int.toNat_natCast]); (repeat' apply And.intro); (all_goals first | exact True.intro | with_reducible rfl | omega | (simp_all; done) | (simp [nxV, dtT, z0]; done) | rfl))) | (((try simp (disch := omega) only [SS, u0, u1, u2, sb_def, Int.toNat_natCast]); first | done | omega | assumption | (simp (disch := omega) only [SS, u0, u1, u2, sb_def, Int.toNat_natCast] at *; first | done | omega | assumption) | (simp_all; done)))

theorem nx1_p0 (s : List UInt8) :
    isEnd (evTill Try.prog sumsS 300 (99) 900 29 [.code (bodyOf Try.f29)] (envOf [vS s] Try.f29.ntmps) ([] ++ ([])) ⟨[.s false, .s true, .s false, .s true], 80⟩) (endP ([]) (nxV ((z0, 0))) ([]) 200) =
    (OkL [((↑s.length : Int) == 0, false), (decide ((0 : Int) ≤ 0 ∧ (0 : Int) < (↑s.length : Int)), true), ((↑(s.getD (0 : Nat) (0 : UInt8)).toNat : Int) != (255 : Int), false), ((↑s.length : Int) == 1, true)] ∧ (((↑(0 : Nat) : Int) = (0 : Int) ∧ (↑(0 : Nat) : Int) = (0 : Int) ∧ (↑(0 : Nat) : Int) = (0 : Int) ∧ ([] : List UInt8) = [] ∧ false = false) ∧ (↑(0 : Nat) : Int) = (0 : Int) ∧ True) ∧ True) := by kernel_rfl

set_option maxHeartbeats 4000000 in
theorem nx1 (s : List UInt8) (hs : s.length ≤ 200) (h : s.length = 1) (h0 : sb s 0 = 255)  :
    RunsTo Try.prog 29 [.code (bodyOf Try.f29)] (envOf [vS s] Try.f29.ntmps) (Sx.look ([] ++ ([]))) 80 (nxV ((z0, 0))) (Sx.look ([])) 200 := by
  have q0 := sb_lt s 0
  have q1 := sb_lt s 1
  have q2 := sb_lt s 2
  have u0 : IntKind.i64.wrap (sb s 0 : Int) = (sb s 0 : Int) := wr64 (by omega)
  have u1 : IntKind.i64.wrap (sb s 1 : Int) = (sb s 1 : Int) := wr64 (by omega)
  have u2 : IntKind.i64.wrap (sb s 2 : Int) = (sb s 2 : Int) := wr64 (by omega)
  refine runs_last baseS (Sx.Ends.of (nx1_p0 s) ⟨(okc ?_ (okc ?_ (okc ?_ (okc ?_ okn)))), ?_⟩) (by kernel_rfl) rfl (gtL (by decide)) (by decide)
  all_goals first | (refine And.intro ?_ ?_ <;> ((try simp (disch := omega) only [SS, u0, u1, u2, sb_def, Int.toNat_natCast]); (repeat' apply And.intro); (all_goals first | exact True.intro | with_reducible rfl | omega | (simp_all; done) | (simp [nxV, dtT, z0]; done) | rfl))) | (((try simp (disch := omega) only [SS, u0, u1, u2, sb_def, Int.toNat_natCast]); first | done | omega | assumption | (simp (disch := omega) only [SS, u0, u1, u2, sb_def, Int.toNat_natCast] at *; first | done | omega | assumption) | (simp_all; done)))

theorem nxE_p0 (s : List UInt8) :
    isEnd (evTill Try.prog sumsS 300 (99) 900 29 [.code (bodyOf Try.f29)] (envOf [vS s] Try.f29.ntmps) ([] ++ ([])) ⟨[.s false, .s true, .s false, .s false, .s true, .s true], 80⟩) (endP ([]) (nxV ((tk 1 255 0 [], 2))) ([]) 200) =
    (OkL [((↑s.length : Int) == 0, false), (decide ((0 : Int) ≤ 0 ∧ (0 : Int) < (↑s.length : Int)), true), ((↑(s.getD (0 : Nat) (0 : UInt8)).toNat : Int) != (255 : Int), false), ((↑s.length : Int) == 1, false), (decide ((0 : Int) ≤ 1 ∧ (1 : Int) < (↑s.length : Int)), true), (IntKind.i64.wrap (↑(s.getD (1 : Nat) (0 : UInt8)).toNat : Int) == 255, true)] ∧ (((↑(1 : Nat) : Int) = (1 : Int) ∧ (↑(255 : Nat) : Int) = (255 : Int) ∧ (↑(0 : Nat) : Int) = (0 : Int) ∧ ([] : List UInt8) = [] ∧ false = false) ∧ (↑(2 : Nat) : Int) = (2 : Int) ∧ True) ∧ True) := by kernel_rfl

set_option maxHeartbeats 4000000 in
theorem nxE (s : List UInt8) (hs : s.length ≤ 200) (h : 1 < s.length) (h0 : sb s 0 = 255) (h1 : sb s 1 = 255)  :
    RunsTo Try.prog 29 [.code (bodyOf Try.f29)] (envOf [vS s] Try.f29.ntmps) (Sx.look ([] ++ ([]))) 80 (nxV ((tk 1 255 0 [], 2))) (Sx.look ([])) 200 := by
  have q0 := sb_lt s 0
  have q1 := sb_lt s 1
  have q2 := sb_lt s 2
  have u0 : IntKind.i64.wrap (sb s 0 : Int) = (sb s 0 : Int) := wr64 (by omega)
  have u1 : IntKind.i64.wrap (sb s 1 : Int) = (sb s 1 : Int) := wr64 (by omega)
  have u2 : IntKind.i64.wrap (sb s 2 : Int) = (sb s 2 : Int) := wr64 (by omega)
  refine runs_last baseS (Sx.Ends.of (nxE_p0 s) ⟨(okc ?_ (okc ?_ (okc ?_ (okc ?_ (okc ?_ (okc ?_ okn)))))), ?_⟩) (by kernel_rfl) rfl (gtL (by decide)) (by decide)
  all_goals first | (refine And.intro ?_ ?_ <;> ((try simp (disch := omega) only [SS, u0, u1, u2, sb_def, Int.toNat_natCast]); (repeat' apply And.intro); (all_goals first | exact True.intro | with_reducible rfl | omega | (simp_all; done) | (simp [nxV, dtT, z0]; done) | rfl))) | (((try simp (disch := omega) only [SS, u0, u1, u2, sb_def, Int.toNat_natCast]); first | done | omega | assumption | (simp (disch := omega) only [SS, u0, u1, u2, sb_def, Int.toNat_natCast] at *; first | done | omega | assumption) | (simp_all; done)))

theorem nxP_p0 (s : List UInt8) :
    isEnd (evTill Try.prog sumsS 300 (99) 900 29 [.code (bodyOf Try.f29)] (envOf [vS s] Try.f29.ntmps) ([] ++ ([])) ⟨[.s false, .s true, .s false, .s false, .s true, .s false, .s true], 80⟩) (endP ([]) (nxV ((tk 2 (sb s 1) 0 [], 2))) ([]) 200) =
    (OkL [((↑s.length : Int) == 0, false), (decide ((0 : Int) ≤ 0 ∧ (0 : Int) < (↑s.length : Int)), true), ((↑(s.getD (0 : Nat) (0 : UInt8)).toNat : Int) != (255 : Int), false), ((↑s.length : Int) == 1, false), (decide ((0 : Int) ≤ 1 ∧ (1 : Int) < (↑s.length : Int)), true), (IntKind.i64.wrap (↑(s.getD (1 : Nat) (0 : UInt8)).toNat : Int) == 255, false), (decide (IntKind.i64.wrap (↑(s.getD (1 : Nat) (0 : UInt8)).toNat : Int) < 250), true)] ∧ (((↑(2 : Nat) : Int) = (2 : Int) ∧ (↑(sb s (1 : Nat)) : Int) = IntKind.i64.wrap (↑(s.getD (1 : Nat) (0 : UInt8)).toNat : Int) ∧ (↑(0 : Nat) : Int) = (0 : Int) ∧ ([] : List UInt8) = [] ∧ false = false) ∧ (↑(2 : Nat) : Int) = (2 : Int) ∧ True) ∧ True) := by kernel_rfl

set_option maxHeartbeats 4000000 in
theorem nxP (s : List UInt8) (hs : s.length ≤ 200) (h : 1 < s.length) (h0 : sb s 0 = 255) (h1 : sb s 1 < 250)  :
    RunsTo Try.prog 29 [.code (bodyOf Try.f29)] (envOf [vS s] Try.f29.ntmps) (Sx.look ([] ++ ([]))) 80 (nxV ((tk 2 (sb s 1) 0 [], 2))) (Sx.look ([])) 200 := by
  have q0 := sb_lt s 0
  have q1 := sb_lt s 1
  have q2 := sb_lt s 2
  have u0 : IntKind.i64.wrap (sb s 0 : Int) = (sb s 0 : Int) := wr64 (by omega)
  have u1 : IntKind.i64.wrap (sb s 1 : Int) = (sb s 1 : Int) := wr64 (by omega)
  have u2 : IntKind.i64.wrap (sb s 2 : Int) = (sb s 2 : Int) := wr64 (by omega)
  refine runs_last baseS (Sx.Ends.of (nxP_p0 s) ⟨(okc ?_ (okc ?_ (okc ?_ (okc ?_ (okc ?_ (okc ?_ (okc ?_ okn))))))), ?_⟩) (by kernel_rfl) rfl (gtL (by decide)) (by decide)
  all_goals first | (refine And.intro ?_ ?_ <;> ((try simp (disch := omega) only [SS, u0, u1, u2, sb_def, Int.toNat_natCast]); (repeat' apply And.intro); (all_goals first | exact True.intro | with_reducible rfl | omega | (simp_all; done) | (simp [nxV, dtT, z0]; done) | rfl))) | (((try simp (disch := omega) only [SS, u0, u1, u2, sb_def, Int.toNat_natCast]); first | done | omega | assumption | (simp (disch := omega) only [SS, u0, u1, u2, sb_def, Int.toNat_natCast] at *; first | done | omega | assumption) | (simp_all; done)))

theorem nx2_p0 (s : List UInt8) :
    isEnd (evTill Try.prog sumsS 300 (99) 900 29 [.code (bodyOf Try.f29)] (envOf [vS s] Try.f29.ntmps) ([] ++ ([])) ⟨[.s false, .s true, .s false, .s false, .s true, .s false, .s false, .s true], 80⟩) (endP ([]) (nxV ((z0, 0))) ([]) 200) =
    (OkL [((↑s.length : Int) == 0, false), (decide ((0 : Int) ≤ 0 ∧ (0 : Int) < (↑s.length : Int)), true), ((↑(s.getD (0 : Nat) (0 : UInt8)).toNat : Int) != (255 : Int), false), ((↑s.length : Int) == 1, false), (decide ((0 : Int) ≤ 1 ∧ (1 : Int) < (↑s.length : Int)), true), (IntKind.i64.wrap (↑(s.getD (1 : Nat) (0 : UInt8)).toNat : Int) == 255, false), (decide (IntKind.i64.wrap (↑(s.getD (1 : Nat) (0 : UInt8)).toNat : Int) < 250), false), ((↑s.length : Int) == 2, true)] ∧ (((↑(0 : Nat) : Int) = (0 : Int) ∧ (↑(0 : Nat) : Int) = (0 : Int) ∧ (↑(0 : Nat) : Int) = (0 : Int) ∧ ([] : List UInt8) = [] ∧ false = false) ∧ (↑(0 : Nat) : Int) = (0 : Int) ∧ True) ∧ True) := by kernel_rfl

set_option maxHeartbeats 4000000 in
theorem nx2 (s : List UInt8) (hs : s.length ≤ 200) (h : s.length = 2) (h0 : sb s 0 = 255) (h1 : 250 ≤ sb s 1 ∧ sb s 1 ≠ 255)  :
    RunsTo Try.prog 29 [.code (bodyOf Try.f29)] (envOf [vS s] Try.f29.ntmps) (Sx.look ([] ++ ([]))) 80 (nxV ((z0, 0))) (Sx.look ([])) 200 := by
  have q0 := sb_lt s 0
  have q1 := sb_lt s 1
  have q2 := sb_lt s 2
  have u0 : IntKind.i64.wrap (sb s 0 : Int) = (sb s 0 : Int) := wr64 (by omega)
  have u1 : IntKind.i64.wrap (sb s 1 : Int) = (sb s 1 : Int) := wr64 (by omega)
  have u2 : IntKind.i64.wrap (sb s 2 : Int) = (sb s 2 : Int) := wr64 (by omega)
  refine runs_last baseS (Sx.Ends.of (nx2_p0 s) ⟨(okc ?_ (okc ?_ (okc ?_ (okc ?_ (okc ?_ (okc ?_ (okc ?_ (okc ?_ okn)))))))), ?_⟩) (by kernel_rfl) rfl (gtL (by decide)) (by decide)
  all_goals first | (refine And.intro ?_ ?_ <;> ((try simp (disch := omega) only [SS, u0, u1, u2, sb_def, Int.toNat_natCast]); (repeat' apply And.intro); (all_goals first | exact True.intro | with_reducible rfl | omega | (simp_all; done) | (simp [nxV, dtT, z0]; done) | rfl))) | (((try simp (disch := omega) only [SS, u0, u1, u2, sb_def, Int.toNat_natCast]); first | done | omega | assumption | (simp (disch := omega) only [SS, u0, u1, u2, sb_def, Int.toNat_natCast] at *; first | done | omega | assumption) | (simp_all; done)))

theorem nxW_p0 (s : List UInt8) :
    isEnd (evTill Try.prog sumsS 300 (99) 900 29 [.code (bodyOf Try.f29)] (envOf [vS s] Try.f29.ntmps) ([] ++ ([])) ⟨[.s false, .s true, .s false, .s false, .s true, .s false, .s false, .s false, .s true, .s true], 80⟩) (endP ([]) (nxV ((tk 3 (sb s 1) (sb s 2) [], 3))) ([]) 200) =
    (OkL [((↑s.length : Int) == 0, false), (decide ((0 : Int) ≤ 0 ∧ (0 : Int) < (↑s.length : Int)), true), ((↑(s.getD (0 : Nat) (0 : UInt8)).toNat : Int) != (255 : Int), false), ((↑s.length : Int) == 1, false), (decide ((0 : Int) ≤ 1 ∧ (1 : Int) < (↑s.length : Int)), true), (IntKind.i64.wrap (↑(s.getD (1 : Nat) (0 : UInt8)).toNat : Int) == 255, false), (decide (IntKind.i64.wrap (↑(s.getD (1 : Nat) (0 : UInt8)).toNat : Int) < 250), false), ((↑s.length : Int) == 2, false), (decide (IntKind.i64.wrap (↑(s.getD (1 : Nat) (0 : UInt8)).toNat : Int) > 250), true), (decide ((0 : Int) ≤ 2 ∧ (2 : Int) < (↑s.length : Int)), true)] ∧ (((↑(3 : Nat) : Int) = (3 : Int) ∧ (↑(sb s (1 : Nat)) : Int) = IntKind.i64.wrap (↑(s.getD (1 : Nat) (0 : UInt8)).toNat : Int) ∧ (↑(sb s (2 : Nat)) : Int) = IntKind.i64.wrap (↑(s.getD (2 : Nat) (0 : UInt8)).toNat : Int) ∧ ([] : List UInt8) = [] ∧ false = false) ∧ (↑(3 : Nat) : Int) = (3 : Int) ∧ True) ∧ True) := by kernel_rfl

set_option maxHeartbeats 4000000 in
theorem nxW (s : List UInt8) (hs : s.length ≤ 200) (h : 2 < s.length) (h0 : sb s 0 = 255) (h1 : 250 < sb s 1 ∧ sb s 1 ≠ 255)  :
    RunsTo Try.prog 29 [.code (bodyOf Try.f29)] (envOf [vS s] Try.f29.ntmps) (Sx.look ([] ++ ([]))) 80 (nxV ((tk 3 (sb s 1) (sb s 2) [], 3))) (Sx.look ([])) 200 := by
  have q0 := sb_lt s 0
  have q1 := sb_lt s 1
  have q2 := sb_lt s 2
  have u0 : IntKind.i64.wrap (sb s 0 : Int) = (sb s 0 : Int) := wr64 (by omega)
  have u1 : IntKind.i64.wrap (sb s 1 : Int) = (sb s 1 : Int) := wr64 (by omega)
  have u2 : IntKind.i64.wrap (sb s 2 : Int) = (sb s 2 : Int) := wr64 (by omega)
  refine runs_last baseS (Sx.Ends.of (nxW_p0 s) ⟨(okc ?_ (okc ?_ (okc ?_ (okc ?_ (okc ?_ (okc ?_ (okc ?_ (okc ?_ (okc ?_ (okc ?_ okn)))))))))), ?_⟩) (by kernel_rfl) rfl (gtL (by decide)) (by decide)
  all_goals first | (refine And.intro ?_ ?_ <;> ((try simp (disch := omega) only [SS, u0, u1, u2, sb_def, Int.toNat_natCast]); (repeat' apply And.intro); (all_goals first | exact True.intro | with_reducible rfl | omega | (simp_all; done) | (simp [nxV, dtT, z0]; done) | rfl))) | (((try simp (disch := omega) only [SS, u0, u1, u2, sb_def, Int.toNat_natCast]); first | done | omega | assumption | (simp (disch := omega) only [SS, u0, u1, u2, sb_def, Int.toNat_natCast] at *; first | done | omega | assumption) | (simp_all; done)))

theorem nxS_p0 (s : List UInt8) :
    isEnd (evTill Try.prog sumsS 300 (99) 900 29 [.code (bodyOf Try.f29)] (envOf [vS s] Try.f29.ntmps) ([] ++ ([])) ⟨[.s false, .s true, .s false, .s false, .s true, .s false, .s false, .s false, .s false, .s true], 80⟩) (endP ([]) (nxV (subR (sb s 2) (s.drop 3) [] 3)) ([]) 200) =
    (OkL [((↑s.length : Int) == 0, false), (decide ((0 : Int) ≤ 0 ∧ (0 : Int) < (↑s.length : Int)), true), ((↑(s.getD (0 : Nat) (0 : UInt8)).toNat : Int) != (255 : Int), false), ((↑s.length : Int) == 1, false), (decide ((0 : Int) ≤ 1 ∧ (1 : Int) < (↑s.length : Int)), true), (IntKind.i64.wrap (↑(s.getD (1 : Nat) (0 : UInt8)).toNat : Int) == 255, false), (decide (IntKind.i64.wrap (↑(s.getD (1 : Nat) (0 : UInt8)).toNat : Int) < 250), false), ((↑s.length : Int) == 2, false), (decide (IntKind.i64.wrap (↑(s.getD (1 : Nat) (0 : UInt8)).toNat : Int) > 250), false), (decide ((3 : Nat) ≤ s.length ∧ s.length ≤ (200 : Nat)), true)] ∧ (((↑(subR (sb s (2 : Nat)) (List.drop (3 : Nat) s) [] (3 : Nat)).1.1 : Int) = (↑(subR (sb s (2 : Nat)) (List.drop (3 : Nat) s) [] (3 : Nat)).1.1 : Int) ∧ (↑(subR (sb s (2 : Nat)) (List.drop (3 : Nat) s) [] (3 : Nat)).1.2 : Int) = (↑(subR (sb s (2 : Nat)) (List.drop (3 : Nat) s) [] (3 : Nat)).1.2 : Int) ∧ (↑(subR (sb s (2 : Nat)) (List.drop (3 : Nat) s) [] (3 : Nat)).1.3 : Int) = (↑(subR (sb s (2 : Nat)) (List.drop (3 : Nat) s) [] (3 : Nat)).1.3 : Int) ∧ (subR (sb s (2 : Nat)) (List.drop (3 : Nat) s) [] (3 : Nat)).1.4 = (subR (sb s (2 : Nat)) (List.drop (3 : Nat) s) [] (3 : Nat)).1.4 ∧ false = false) ∧ (↑(subR (sb s (2 : Nat)) (List.drop (3 : Nat) s) [] (3 : Nat)).2 : Int) = (↑(subR (sb s (2 : Nat)) (List.drop (3 : Nat) s) [] (3 : Nat)).2 : Int) ∧ True) ∧ True) := by kernel_rfl

set_option maxHeartbeats 4000000 in
theorem nxS (s : List UInt8) (hs : s.length ≤ 200) (h : 2 < s.length) (h0 : sb s 0 = 255) (h1 : sb s 1 = 250)  :
    RunsTo Try.prog 29 [.code (bodyOf Try.f29)] (envOf [vS s] Try.f29.ntmps) (Sx.look ([] ++ ([]))) 80 (nxV (subR (sb s 2) (s.drop 3) [] 3)) (Sx.look ([])) 200 := by
  have q0 := sb_lt s 0
  have q1 := sb_lt s 1
  have q2 := sb_lt s 2
  have u0 : IntKind.i64.wrap (sb s 0 : Int) = (sb s 0 : Int) := wr64 (by omega)
  have u1 : IntKind.i64.wrap (sb s 1 : Int) = (sb s 1 : Int) := wr64 (by omega)
  have u2 : IntKind.i64.wrap (sb s 2 : Int) = (sb s 2 : Int) := wr64 (by omega)
  refine runs_last baseS (Sx.Ends.of (nxS_p0 s) ⟨(okc ?_ (okc ?_ (okc ?_ (okc ?_ (okc ?_ (okc ?_ (okc ?_ (okc ?_ (okc ?_ (okc ?_ okn)))))))))), ?_⟩) (by kernel_rfl) rfl (gtL (by decide)) (by decide)
  all_goals first | (refine And.intro ?_ ?_ <;> ((try simp (disch := omega) only [SS, u0, u1, u2, sb_def, Int.toNat_natCast]); (repeat' apply And.intro); (all_goals first | exact True.intro | with_reducible rfl | omega | (simp_all; done) | (simp [nxV, dtT, z0]; done) | rfl))) | (((try simp (disch := omega) only [SS, u0, u1, u2, sb_def, Int.toNat_natCast]); first | done | omega | assumption | (simp (disch := omega) only [SS, u0, u1, u2, sb_def, Int.toNat_natCast] at *; first | done | omega | assumption) | (simp_all; done)))

theorem nxI (s : List UInt8) (hs : s.length ≤ 200) : RunsTo Try.prog 29 [.code (bodyOf Try.f29)] (envOf [vS s] Try.f29.ntmps) (Sx.look ([] ++ ([]))) 80 (nxV (nextR s)) (Sx.look []) 200 := by
  match s, hs with
  | [], hs => exact nx0 [] hs rfl
  | [c], hs =>
    by_cases h : sb [c] 0 = 255
    · have e : c = 255 := UInt8.toNat_inj.1 h
      have q := nx1 [c] hs rfl h
      subst e; exact q
    · have e : c ≠ 255 := fun q => h (by rw [q]; rfl)
      have q := nxD [c] hs (by simp) h
      rw [show nextR [c] = (tk 1 (sb [c] 0) 0 [], 1) by simp [nextR, e, tk, sb]]; exact q
  | c :: d :: r, hs =>
    by_cases h : sb (c :: d :: r) 0 = 255
    · have e : c = 255 := UInt8.toNat_inj.1 h
      subst e
      by_cases h1 : sb (255 :: d :: r) 1 = 255
      · have e : d = 255 := UInt8.toNat_inj.1 h1
        subst e
        rw [show nextR (255 :: 255 :: r) = (tk 1 255 0 [], 2) by simp [nextR, tk]]
        exact nxE _ hs (by simp) h h1
      · have e : d ≠ 255 := fun q => h1 (by rw [q]; rfl)
        have h1' : d.toNat ≠ 255 := h1
        have hd := d.toNat_lt
        by_cases h2 : d.toNat < 250
        · rw [show nextR (255 :: d :: r) = (tk 2 d.toNat 0 [], 2) by simp [nextR, e, h2, tk]]
          exact nxP _ hs (by simp) h h2
        · match r, hs, h, h1 with
          | [], hs, h, h1 =>
            rw [show nextR [255, d] = (z0, 0) by simp [nextR, e, h2]]
            exact nx2 _ hs rfl h ⟨by show 250 ≤ d.toNat; omega, h1⟩
          | x :: r3, hs, h, h1 =>
            by_cases h3 : 250 < d.toNat
            · rw [show nextR (255 :: d :: x :: r3) = (tk 3 d.toNat x.toNat [], 3) by simp [nextR, e, h2, h3, tk]]
              exact nxW _ hs (by simp) h ⟨h3, h1⟩
            · rw [show nextR (255 :: d :: x :: r3) = subR x.toNat r3 [] 3 by simp [nextR, e, h2, h3]]
              exact nxS _ hs (by simp) h (by show d.toNat = 250; omega)
    · have e : c ≠ 255 := fun q => h (by rw [q]; rfl)
      have q := nxD (c :: d :: r) hs (by simp) h
      rw [show nextR (c :: d :: r) = (tk 1 (sb (c :: d :: r) 0) 0 [], 1) by rw [nextR.eq_def]; simp [e, tk, sb]]; exact q
def nxP_ : PC := { args := [.v (.vs 0)], heap := [], gs := [], G := 0, tp := 999, n := 80, n' := 200, cond := fun e => decide ((eS e 0 []).length ≤ 200), v := fun e => nxV (nextR (eS e 0 [])), post := fun e => [] }
theorem nxP__pc : PC.Runs Try.prog 29 Try.f29 (bodyOf Try.f29) nxP_ := ⟨Try.func29, by kernel_rfl, (fun g hg => by first | (cases hg; done) | (revert g; show ∀ g ∈ ([] : List Nat), g < 0; decide)), fun e H hc => by
  have hc : (decide ((eS e 0 []).length ≤ 200)) = true := hc
  try simp only [Bool.and_eq_true, decide_eq_true_eq, Nat.beq_eq] at hc
  exact nxI (eS e 0 []) hc⟩
def sumsN : List (FuncId × Summ) := [(29, nxP_.summ 0)]
theorem baseN : Base0 Try.prog sumsN := (baseO.cons Try.func29 (by kernel_rfl) (PC.summ_ok nxP__pc gtopG))
theorem ksStart_p0 (s : List UInt8) :
    isMore (evTill Try.prog sumsN 300 (behind Try.f22 0) 900 22 [.code (bodyOf Try.f22)] (envOf [vS s] Try.f22.ntmps) ([] ++ ([])) ⟨[], 80⟩) (moreP (headOf Try.f22 0) ([(102, Rn.to 80), (103, Rn.to 81)]) Try.f22.ntmps ([(0, vS s), (4, vL 102 5 (([] : List Tok)).length), (5, vL 103 1 (([] : List Nat)).length), (6, vN (0 : Nat))]) (dE 102 (([] : List Tok)) ++ nE 103 (([] : List Nat))) 320) =
    (OkL [] ∧ headOf Try.f22 0 = headOf Try.f22 0 ∧ (s = s ∧ (0 = 0 ∧ 0 = 0) ∧ (0 = 0 ∧ 0 = 0) ∧ (↑(0 : Nat) : Int) = (0 : Int)) ∧ (0 = 0 ∧ (∀ (i : Nat), i < (0 : Nat) → tK [] [i] = (0 : Int)) ∧ (∀ (i : Nat), i < (0 : Nat) → tC [] [i] = (0 : Int)) ∧ (∀ (i : Nat), i < (0 : Nat) → tO [] [i] = (0 : Int)) ∧ (∀ (i : Nat), i < (0 : Nat) → tS [] [i] = []) ∧ ∀ (i : Nat), i < (0 : Nat) → tU [i] = false) ∧ 0 = 0 ∧ ∀ (i : Nat), i < (0 : Nat) → lN [] [i] = (0 : Int)) := by kernel_rfl

set_option maxHeartbeats 4000000 in
theorem ksStart (s : List UInt8)  (v : SV) (L' : HF) (next : RunsTo Try.prog 22 (headOf Try.f22 0) (envAt Try.f22.ntmps ([(0, vS s), (4, vL 102 5 (([] : List Tok)).length), (5, vL 103 1 (([] : List Nat)).length), (6, vN (0 : Nat))])) (Sx.look ([] ++ (dE 102 (([] : List Tok)) ++ nE 103 (([] : List Nat))))) 80 (v) (L') 320) :
    RunsTo Try.prog 22 [.code (bodyOf Try.f22)] (envOf [vS s] Try.f22.ntmps) (Sx.look ([] ++ ([]))) 80 (v) (L') 320 := by
  refine runs_more baseN (More.of (ksStart_p0 s) ⟨okn, rfl, ?_⟩) (by kernel_rfl) (by kernel_rfl) rfl (gtL (by decide)) (by decide) next
  all_goals clear next
  all_goals first | (refine And.intro ?_ ?_ <;> ((try simp (disch := omega) only [SS]); (repeat' apply And.intro); (all_goals first | exact True.intro | with_reducible rfl | omega | (intros; first | exact True.intro | with_reducible rfl | omega | (simp_all; done)) | (simp_all; done) | rfl))) | (((try simp (disch := omega) only [SS]); first | done | omega | assumption | (simp (disch := omega) only [SS] at *; first | done | omega | assumption) | (simp_all; done)))

theorem ksR_p0 (s : List UInt8) (T : List Tok) (E : List Nat) (i : Nat) (r : Tok × Nat) :
    isMore (evTill Try.prog sumsN 300 (behind Try.f22 0) 900 22 (headOf Try.f22 0) (envAt Try.f22.ntmps ([(0, vS s), (4, vL 102 5 (T).length), (5, vL 103 1 (E).length), (6, vN (i : Nat))])) ([] ++ (dE 102 (T) ++ nE 103 (E))) ⟨[.s true, .s true, .s false, .t, .s true, .s true, .t, .s true, .s true], 130⟩) (moreP (headOf Try.f22 0) ([(102, Rn.to 252), (103, Rn.to 254)]) Try.f22.ntmps ([(0, vS s), (4, vL 102 5 (T ++ [r.1]).length), (5, vL 103 1 (E ++ [i + r.2 - 1]).length), (6, vN (i + r.2 : Nat))]) (dE 102 (T ++ [r.1]) ++ nE 103 (E ++ [i + r.2 - 1])) 320) =
    (OkL [(decide ((0 : Int) ≤ (i : Int) ∧ (i : Int) ≤ (↑s.length : Int)), true), (decide ((List.drop (i : Int).toNat (List.take s.length s)).length ≤ (200 : Nat)), true), ((↑(nextR (List.drop (i : Int).toNat (List.take s.length s))).2 : Int) == 0, false), ((0 + T.length).ble T.length, true), (decide (((2 : Nat) * (T.length + (1 : Nat)) + (192 : Nat)) * (48 : Nat) ≤ (281474976710656 : Nat)), true), ((0 + E.length).ble E.length, true), (decide (((2 : Nat) * (E.length + (1 : Nat)) + (192 : Nat)) * (8 : Nat) ≤ (281474976710656 : Nat)), true)] ∧ headOf Try.f22 0 = headOf Try.f22 0 ∧ (s = s ∧ (0 = 0 ∧ (T ++ [r.1]).length = T.length + (1 : Nat)) ∧ (0 = 0 ∧ (E ++ [i + r.2 - (1 : Nat)]).length = E.length + (1 : Nat)) ∧ (↑(i + r.2) : Int) = IntKind.i64.wrap ((i : Int) + (↑(nextR (List.drop (i : Int).toNat (List.take s.length s))).2 : Int))) ∧ ((T ++ [r.1]).length = T.length + (1 : Nat) ∧ (∀ (i_1 : Nat), i_1 < (T ++ [r.1]).length → tK (T ++ [r.1]) [i_1] = appF T.length (0 : Nat) (tK T) (fun js => (↑(nextR (List.drop (i : Int).toNat (List.take s.length s))).1.1 : Int)) [i_1]) ∧ (∀ (i_1 : Nat), i_1 < (T ++ [r.1]).length → tC (T ++ [r.1]) [i_1] = appF T.length (0 : Nat) (tC T) (fun js => (↑(nextR (List.drop (i : Int).toNat (List.take s.length s))).1.2 : Int)) [i_1]) ∧ (∀ (i_1 : Nat), i_1 < (T ++ [r.1]).length → tO (T ++ [r.1]) [i_1] = appF T.length (0 : Nat) (tO T) (fun js => (↑(nextR (List.drop (i : Int).toNat (List.take s.length s))).1.3 : Int)) [i_1]) ∧ (∀ (i_1 : Nat), i_1 < (T ++ [r.1]).length → tS (T ++ [r.1]) [i_1] = appF T.length (0 : Nat) (tS T) (fun js => (nextR (List.drop (i : Int).toNat (List.take s.length s))).1.4) [i_1]) ∧ ∀ (i : Nat), i < (T ++ [r.1]).length → tU [i] = appF T.length (0 : Nat) tU (fun js => false) [i]) ∧ (E ++ [i + r.2 - (1 : Nat)]).length = E.length + (1 : Nat) ∧ ∀ (i_1 : Nat), i_1 < (E ++ [i + r.2 - (1 : Nat)]).length → lN (E ++ [i + r.2 - (1 : Nat)]) [i_1] = appF E.length (0 : Nat) (lN E) (fun js => IntKind.i64.wrap (IntKind.i64.wrap ((i : Int) + (↑(nextR (List.drop (i : Int).toNat (List.take s.length s))).2 : Int)) - 1)) [i_1]) := by kernel_rfl

set_option maxHeartbeats 4000000 in
theorem ksR (s : List UInt8) (T : List Tok) (E : List Nat) (i : Nat) (r : Tok × Nat) (hs : s.length ≤ 200) (hi : i ≤ s.length) (hT : T.length ≤ i) (hE : E.length ≤ i) (hr : nextR (s.drop i) = r) (hz : r.2 ≠ 0) (hle : i + r.2 ≤ s.length)  (v : SV) (L' : HF) (next : RunsTo Try.prog 22 (headOf Try.f22 0) (envAt Try.f22.ntmps ([(0, vS s), (4, vL 102 5 (T ++ [r.1]).length), (5, vL 103 1 (E ++ [i + r.2 - 1]).length), (6, vN (i + r.2 : Nat))])) (Sx.look ([] ++ (dE 102 (T ++ [r.1]) ++ nE 103 (E ++ [i + r.2 - 1])))) 80 (v) (L') 320) :
    RunsTo Try.prog 22 (headOf Try.f22 0) (envAt Try.f22.ntmps ([(0, vS s), (4, vL 102 5 (T).length), (5, vL 103 1 (E).length), (6, vN (i : Nat))])) (Sx.look ([] ++ (dE 102 (T) ++ nE 103 (E)))) 80 (v) (L') 320 := by
  have hl : (s.drop i).length ≤ 200 := by rw [List.length_drop]; omega
  have ht : List.take s.length s = s := List.take_length
  have hsum : IntKind.i64.wrap ((i : Int) + (r.2 : Int)) = ((i + r.2 : Nat) : Int) := by rw [wr64 (by omega)]; rfl
  have hen : IntKind.i64.wrap (((i + r.2 : Nat) : Int) - 1) = ((i + r.2 - 1 : Nat) : Int) := by rw [wr64 (by omega)]; omega
  refine runs_more baseN (More.of (ksR_p0 s T E i r) ⟨(okc ?_ (okc ?_ (okc ?_ (okc ?_ (okc ?_ (okc ?_ (okc ?_ okn))))))), rfl, ?_⟩) (by kernel_rfl) (by kernel_rfl) rfl (gtL (by decide)) (by decide) next
  all_goals clear next
  all_goals first | (refine And.intro ?_ ?_ <;> ((simp (disch := omega) only [SS, ht, hl, hr, hsum, hen, Int.toNat_natCast, Go.Sx.sum, List.length_append, List.length_cons, List.length_nil, Nat.zero_add]); (repeat' apply And.intro); (all_goals first | exact True.intro | with_reducible rfl | omega | exact tKA T _ _ rfl | exact tCA T _ _ rfl | exact tOA T _ _ rfl | exact tSA T _ _ rfl | (intro k hk; exact tUA _ _ _ (fun _ => rfl) (fun _ => rfl) k) | exact lNA E _ _ rfl | (intros; simp_all; done) | (simp_all; done)))) | (((try simp (disch := omega) only [SS, ht, hl, hr, hsum, hen, Int.toNat_natCast]); first | done | omega | assumption | (simp (disch := omega) only [SS, ht, hl, hr, hsum, hen, Int.toNat_natCast] at *; first | done | omega | assumption) | (simp_all; done)))

theorem ksE_p0 (s : List UInt8) (T : List Tok) (E : List Nat) (i : Nat) (r : Tok × Nat) :
    isEnd (evTill Try.prog sumsN 300 (99) 900 22 (headOf Try.f22 0) (envAt Try.f22.ntmps ([(0, vS s), (4, vL 102 5 (T).length), (5, vL 103 1 (E).length), (6, vN (i : Nat))])) ([] ++ (dE 102 (T) ++ nE 103 (E))) ⟨[.s true, .s true, .s true], 130⟩) (endP ([]) (.tup [(false, .vl 102 (fun _ => 0) 5 [] (fun _ => (T).length)), (false, .vl 103 (fun _ => 0) 1 [] (fun _ => (E).length))]) (dE 102 (T) ++ nE 103 (E)) 320) =
    (OkL [(decide ((0 : Int) ≤ (i : Int) ∧ (i : Int) ≤ (↑s.length : Int)), true), (decide ((List.drop (i : Int).toNat (List.take s.length s)).length ≤ (200 : Nat)), true), ((↑(nextR (List.drop (i : Int).toNat (List.take s.length s))).2 : Int) == 0, true)] ∧ ((0 = 0 ∧ T.length = T.length) ∧ (0 = 0 ∧ E.length = E.length) ∧ True) ∧ (T.length = T.length ∧ (∀ (i : Nat), i < T.length → tK T [i] = tK T [i]) ∧ (∀ (i : Nat), i < T.length → tC T [i] = tC T [i]) ∧ (∀ (i : Nat), i < T.length → tO T [i] = tO T [i]) ∧ (∀ (i : Nat), i < T.length → tS T [i] = tS T [i]) ∧ ∀ (i : Nat), i < T.length → tU [i] = tU [i]) ∧ E.length = E.length ∧ ∀ (i : Nat), i < E.length → lN E [i] = lN E [i]) := by kernel_rfl

set_option maxHeartbeats 4000000 in
theorem ksE (s : List UInt8) (T : List Tok) (E : List Nat) (i : Nat) (r : Tok × Nat) (hs : s.length ≤ 200) (hi : i ≤ s.length) (hT : T.length ≤ i) (hE : E.length ≤ i) (hr : nextR (s.drop i) = r) (hz : r.2 = 0)  :
    RunsTo Try.prog 22 (headOf Try.f22 0) (envAt Try.f22.ntmps ([(0, vS s), (4, vL 102 5 (T).length), (5, vL 103 1 (E).length), (6, vN (i : Nat))])) (Sx.look ([] ++ (dE 102 (T) ++ nE 103 (E)))) 80 (.tup [(false, .vl 102 (fun _ => 0) 5 [] (fun _ => (T).length)), (false, .vl 103 (fun _ => 0) 1 [] (fun _ => (E).length))]) (Sx.look (dE 102 (T) ++ nE 103 (E))) 320 := by
  have hl : (s.drop i).length ≤ 200 := by rw [List.length_drop]; omega
  have ht : List.take s.length s = s := List.take_length
  refine runs_last baseN (Sx.Ends.of (ksE_p0 s T E i r) ⟨(okc ?_ (okc ?_ (okc ?_ okn))), ?_⟩) (by kernel_rfl) rfl (gtL (by decide)) (by decide)
  all_goals first | (refine And.intro ?_ ?_ <;> ((try simp (disch := omega) only [SS, ht, hl, hr, hz, Int.toNat_natCast]); (repeat' apply And.intro); (all_goals first | exact True.intro | with_reducible rfl | omega | (intros; first | exact True.intro | with_reducible rfl | omega | (simp_all; done)) | (simp_all; done) | rfl))) | (((try simp (disch := omega) only [SS, ht, hl, hr, hz, Int.toNat_natCast]); first | done | omega | assumption | (simp (disch := omega) only [SS, ht, hl, hr, hz, Int.toNat_natCast] at *; first | done | omega | assumption) | (simp_all; done)))

theorem next_le (s : List UInt8) (h : (nextR s).2 ≠ 0) : (nextR s).2 ≤ s.length := ((next_ok s 0).2 h).1
theorem ksL (s : List UInt8) (hs : s.length ≤ 200) : ∀ (k i : Nat) (T : List Tok) (E : List Nat), i ≤ s.length → s.length - i < k → T.length ≤ i → E.length ≤ i → RunsTo Try.prog 22 (headOf Try.f22 0) (envAt Try.f22.ntmps ([(0, vS s), (4, vL 102 5 (T).length), (5, vL 103 1 (E).length), (6, vN (i : Nat))])) (Sx.look ([] ++ (dE 102 (T) ++ nE 103 (E)))) 80 (.tup [(false, .vl 102 (fun _ => 0) 5 [] (fun _ => (T ++ (toksR k i (s.drop i)).map Prod.fst).length)), (false, .vl 103 (fun _ => 0) 1 [] (fun _ => (E ++ (toksR k i (s.drop i)).map Prod.snd).length))]) (Sx.look (dE 102 (T ++ (toksR k i (s.drop i)).map Prod.fst) ++ nE 103 (E ++ (toksR k i (s.drop i)).map Prod.snd))) 320 := by
  intro k
  induction k with
  | zero => intro i T E hi hk; omega
  | succ k ih =>
    intro i T E hi hk hT hE
    have hd : (s.drop i).length = s.length - i := List.length_drop
    by_cases hz : (nextR (s.drop i)).2 = 0
    · simp only [toksR, hz, if_true, List.map_nil, List.append_nil]
      exact ksE s T E i _ hs hi hT hE rfl hz
    · have hle := next_le (s.drop i) hz
      simp only [toksR, hz, if_false, List.map_cons, List.drop_drop]
      rw [List.append_cons T, List.append_cons E]
      exact ksR s T E i _ hs hi hT hE rfl hz (by omega) _ _ (ih (i + (nextR (s.drop i)).2) _ _ (by omega) (by omega) (by simp; omega) (by simp; omega))
theorem ksI (s : List UInt8) (hs : s.length ≤ 200) : RunsTo Try.prog 22 [.code (bodyOf Try.f22)] (envOf [vS s] Try.f22.ntmps) (Sx.look ([] ++ ([]))) 80 (.tup [(false, .vl 102 (fun _ => 0) 5 [] (fun _ => ((toksR (s.length + 1) 0 s).map Prod.fst).length)), (false, .vl 103 (fun _ => 0) 1 [] (fun _ => ((toksR (s.length + 1) 0 s).map Prod.snd).length))]) (Sx.look (dE 102 ((toksR (s.length + 1) 0 s).map Prod.fst) ++ nE 103 ((toksR (s.length + 1) 0 s).map Prod.snd))) 320 := by
  have q := ksL s hs (s.length + 1) 0 [] [] (by omega) (by omega) (by simp) (by simp)
  rw [List.drop_zero, List.nil_append, List.nil_append] at q
  exact ksStart s _ _ q
def ksP : PC := { args := [.v (.vs 0)], heap := [], gs := [], G := 0, tp := 999, n := 80, n' := 320, cond := fun e => decide ((eS e 0 []).length ≤ 200), v := fun e => .tup [(false, .vl 102 (fun _ => 0) 5 [] (fun _ => ((toksR ((eS e 0 []).length + 1) 0 (eS e 0 [])).map Prod.fst).length)), (false, .vl 103 (fun _ => 0) 1 [] (fun _ => ((toksR ((eS e 0 []).length + 1) 0 (eS e 0 [])).map Prod.snd).length))], post := fun e => dE 102 ((toksR ((eS e 0 []).length + 1) 0 (eS e 0 [])).map Prod.fst) ++ nE 103 ((toksR ((eS e 0 []).length + 1) 0 (eS e 0 [])).map Prod.snd) }
theorem ksP_pc : PC.Runs Try.prog 22 Try.f22 (bodyOf Try.f22) ksP := ⟨Try.func22, by kernel_rfl, (fun g hg => by first | (cases hg; done) | (revert g; show ∀ g ∈ ([] : List Nat), g < 0; decide)), fun e H hc => by
  have hc : (decide ((eS e 0 []).length ≤ 200)) = true := hc
  try simp only [Bool.and_eq_true, decide_eq_true_eq, Nat.beq_eq] at hc
  exact ksI (eS e 0 []) hc⟩
end Go.Proofs.Ytcphocfnhekdaaa

set_option linter.unusedSimpArgs false
set_option linter.unusedVariables false
set_option maxRecDepth 100000
namespace Go.Proofs.Ytcphocfnhekdaaa
open Go.Sx

open CleanR
def fE (l : Nat) (F : List Bool) : List Ent := [⟨l, true, none, 1, .ta F.length (.vb fun is => F.getD (is.headD 0) false)⟩]
def rbE (l n : Nat) (F : Ix → Bool) : List Ent := [⟨l, false, none, 1, .ta n (.vb F)⟩]
def wbE (l n : Nat) (F : Ix → Bool) : List Ent := [⟨l, true, none, 1, .ta n (.vb F)⟩]
def oE (p : Nat) (t : Tok) : List Ent := [⟨p, true, none, 5, dtT t.kind t.code t.opt t.body⟩]
/-- Is a byte left out? -/
def gnB (d : List UInt8) (F : Ix → Bool) (j : Nat) : Bool := decide (0 < j) && (decide (sb d j = 0) && (!F [j] && (decide (sb d (j - 1) = 13) && !F [j - 1])))
theorem toks_len : ∀ (k a : Nat) (s : List UInt8), (toksR k a s).length ≤ k
  | 0, _, _ => by simp [toksR]
  | k + 1, a, s => by
    simp only [toksR]
    split
    · simp
    · have := toks_len k (a + (nextR s).2) (s.drop (nextR s).2)
      simp only [List.length_cons]; omega
theorem fA (F : List Bool) (x : Bool) (g : Ix → Bool) (hg : g [0] = x) : ∀ k, k < F.length + 1 → (F ++ [x]).getD k false = appF F.length 0 (fun is => F.getD (is.headD 0) false) g [k] := fun k hk =>
  app_get (fun b : Bool => b) false F [x] g (fun j hj => by
    have : j = 0 := by simp at hj; omega
    subst this; exact hg) k (by simpa using hk)
theorem gn0_p0 (d : List UInt8) (n : Nat) (F : Ix → Bool) (j : Nat) :
    isEnd (evTill Try.prog [] 300 (99) 900 23 [.code (bodyOf Try.f23)] (envOf [vS d, vL 61 1 n, vN j] Try.f23.ntmps) (rbE 61 n F ++ ([])) ⟨[.s false], 80⟩) (endP ([]) (vB (false)) ([]) 140) =
    (OkL [(decide ((j : Int) > 0), false)] ∧ false = false ∧ True) := by kernel_rfl

set_option maxHeartbeats 4000000 in
theorem gn0 (d : List UInt8) (n : Nat) (F : Ix → Bool) (j : Nat) (hj : j < d.length) (hn : d.length ≤ n) (hd : d.length ≤ 1000) (h : j = 0)  :
    RunsTo Try.prog 23 [.code (bodyOf Try.f23)] (envOf [vS d, vL 61 1 n, vN j] Try.f23.ntmps) (Sx.look (rbE 61 n F ++ ([]))) 80 (vB (false)) (Sx.look ([])) 140 := by
  have q0 := sb_lt d j
  have q1 := sb_lt d (j - 1)
  refine runs_last baseO (Sx.Ends.of (gn0_p0 d n F j) ⟨(okc ?_ okn), ?_⟩) (by kernel_rfl) rfl (gtL (by decide)) (by decide)
  all_goals first | (refine And.intro ?_ ?_ <;> ((simp (disch := omega) only [SS, sb_def, Go.Sx.sum, Int.toNat_natCast, gnB, h]); (repeat' apply And.intro); (all_goals first | exact True.intro | with_reducible rfl | omega | (rw [Bool.eq_iff_iff]; simp_all [sb]; done) | (rw [Bool.eq_iff_iff]; simp_all [sb]; omega) | (rw [Bool.eq_iff_iff]; simp [sb] at *; first | omega | (intro _; omega) | (left; omega) | (simp_all; done) | (intros; simp_all; omega)) | (simp_all [sb]; done) | (simp_all [sb]; omega) | (simp_all [sb]; first | (left; omega) | (intro _; omega))))) | (((try simp (disch := omega) only [SS, sb_def, Go.Sx.sum, Int.toNat_natCast, h]); first | done | omega | assumption | (simp (disch := omega) only [SS, sb_def, Go.Sx.sum, Int.toNat_natCast, h] at *; first | done | omega | assumption) | (simp_all; done)))

theorem gn1_p0 (d : List UInt8) (n : Nat) (F : Ix → Bool) (j : Nat) :
    isEnd (evTill Try.prog [] 300 (99) 900 23 [.code (bodyOf Try.f23)] (envOf [vS d, vL 61 1 n, vN j] Try.f23.ntmps) (rbE 61 n F ++ ([])) ⟨[.s true, .s true, .s false], 80⟩) (endP ([]) (vB (gnB d F j)) ([]) 140) =
    (OkL [(decide ((j : Int) > 0), true), (decide ((0 : Int) ≤ (j : Int) ∧ (j : Int) < (↑d.length : Int)), true), ((↑(d.getD (j : Int).toNat (0 : UInt8)).toNat : Int) == 0, false)] ∧ gnB d F j = false ∧ True) := by kernel_rfl
theorem gn1_p1 (d : List UInt8) (n : Nat) (F : Ix → Bool) (j : Nat) :
    isEnd (evTill Try.prog [] 300 (99) 900 23 [.code (bodyOf Try.f23)] (envOf [vS d, vL 61 1 n, vN j] Try.f23.ntmps) (rbE 61 n F ++ ([])) ⟨[.s true, .s true, .s true, .s true, .s true, .s true, .s false], 80⟩) (endP ([]) (vB (gnB d F j)) ([]) 140) =
    (OkL [(decide ((j : Int) > 0), true), (decide ((0 : Int) ≤ (j : Int) ∧ (j : Int) < (↑d.length : Int)), true), ((↑(d.getD (j : Int).toNat (0 : UInt8)).toNat : Int) == 0, true), (decide ((0 : Int) ≤ (j : Int) ∧ (j : Int) < (n : Int)), true), ((0 + (j : Int).toNat).blt n, true), ((0 + (j : Int).toNat).blt n, true), (!F [0 + (j : Int).toNat], false)] ∧ gnB d F j = false ∧ True) := by kernel_rfl
theorem gn1_p2 (d : List UInt8) (n : Nat) (F : Ix → Bool) (j : Nat) :
    isEnd (evTill Try.prog [] 300 (99) 900 23 [.code (bodyOf Try.f23)] (envOf [vS d, vL 61 1 n, vN j] Try.f23.ntmps) (rbE 61 n F ++ ([])) ⟨[.s true, .s true, .s true, .s true, .s true, .s true, .s true, .s true, .s false], 80⟩) (endP ([]) (vB (gnB d F j)) ([]) 140) =
    (OkL [(decide ((j : Int) > 0), true), (decide ((0 : Int) ≤ (j : Int) ∧ (j : Int) < (↑d.length : Int)), true), ((↑(d.getD (j : Int).toNat (0 : UInt8)).toNat : Int) == 0, true), (decide ((0 : Int) ≤ (j : Int) ∧ (j : Int) < (n : Int)), true), ((0 + (j : Int).toNat).blt n, true), ((0 + (j : Int).toNat).blt n, true), (!F [0 + (j : Int).toNat], true), (decide ((0 : Int) ≤ IntKind.i64.wrap ((j : Int) - 1) ∧ IntKind.i64.wrap ((j : Int) - 1) < (↑d.length : Int)), true), ((↑(d.getD (IntKind.i64.wrap ((j : Int) - 1)).toNat (0 : UInt8)).toNat : Int) == 13, false)] ∧ gnB d F j = false ∧ True) := by kernel_rfl
theorem gn1_p3 (d : List UInt8) (n : Nat) (F : Ix → Bool) (j : Nat) :
    isEnd (evTill Try.prog [] 300 (99) 900 23 [.code (bodyOf Try.f23)] (envOf [vS d, vL 61 1 n, vN j] Try.f23.ntmps) (rbE 61 n F ++ ([])) ⟨[.s true, .s true, .s true, .s true, .s true, .s true, .s true, .s true, .s true, .s true, .s true, .s true], 80⟩) (endP ([]) (vB (gnB d F j)) ([]) 140) =
    (OkL [(decide ((j : Int) > 0), true), (decide ((0 : Int) ≤ (j : Int) ∧ (j : Int) < (↑d.length : Int)), true), ((↑(d.getD (j : Int).toNat (0 : UInt8)).toNat : Int) == 0, true), (decide ((0 : Int) ≤ (j : Int) ∧ (j : Int) < (n : Int)), true), ((0 + (j : Int).toNat).blt n, true), ((0 + (j : Int).toNat).blt n, true), (!F [0 + (j : Int).toNat], true), (decide ((0 : Int) ≤ IntKind.i64.wrap ((j : Int) - 1) ∧ IntKind.i64.wrap ((j : Int) - 1) < (↑d.length : Int)), true), ((↑(d.getD (IntKind.i64.wrap ((j : Int) - 1)).toNat (0 : UInt8)).toNat : Int) == 13, true), (decide ((0 : Int) ≤ IntKind.i64.wrap ((j : Int) - 1) ∧ IntKind.i64.wrap ((j : Int) - 1) < (n : Int)), true), ((0 + (IntKind.i64.wrap ((j : Int) - 1)).toNat).blt n, true), ((0 + (IntKind.i64.wrap ((j : Int) - 1)).toNat).blt n, true)] ∧ gnB d F j = !F [0 + (IntKind.i64.wrap ((j : Int) - 1)).toNat] ∧ True) := by kernel_rfl

set_option maxHeartbeats 4000000 in
theorem gn1 (d : List UInt8) (n : Nat) (F : Ix → Bool) (j : Nat) (hj : j < d.length) (hn : d.length ≤ n) (hd : d.length ≤ 1000) (h : 0 < j)  :
    RunsTo Try.prog 23 [.code (bodyOf Try.f23)] (envOf [vS d, vL 61 1 n, vN j] Try.f23.ntmps) (Sx.look (rbE 61 n F ++ ([]))) 80 (vB (gnB d F j)) (Sx.look ([])) 140 := by
  have q0 := sb_lt d j
  have q1 := sb_lt d (j - 1)
  have hm : IntKind.i64.wrap ((j : Int) - 1) = ((j - 1 : Nat) : Int) := by rw [wr64 (by omega)]; omega
  have hz : (IntKind.i64.wrap ((j : Int) - 1)).toNat = j - 1 := by rw [hm]; rfl
  refine bcase (c := ((↑(d.getD (↑j : Int).toNat (0 : UInt8)).toNat : Int) == (0 : Int))) (fun gg0 => (runs_last baseO (Sx.Ends.of (gn1_p0 d n F j) ⟨(okc ?_ (okc ?_ (okc gg0 okn))), ?_⟩) (by kernel_rfl) rfl (gtL (by decide)) (by decide))) (fun gg0 => bcase (c := (!F [(0 : Nat) + (↑j : Int).toNat])) (fun gg1 => (runs_last baseO (Sx.Ends.of (gn1_p1 d n F j) ⟨(okc ?_ (okc ?_ (okc gg0 (okc ?_ (okc ?_ (okc ?_ (okc gg1 okn))))))), ?_⟩) (by kernel_rfl) rfl (gtL (by decide)) (by decide))) (fun gg1 => bcase (c := ((↑(d.getD (IntKind.i64.wrap ((↑j : Int) - (1 : Int))).toNat (0 : UInt8)).toNat : Int) == (13 : Int))) (fun gg2 => (runs_last baseO (Sx.Ends.of (gn1_p2 d n F j) ⟨(okc ?_ (okc ?_ (okc gg0 (okc ?_ (okc ?_ (okc ?_ (okc gg1 (okc ?_ (okc gg2 okn))))))))), ?_⟩) (by kernel_rfl) rfl (gtL (by decide)) (by decide))) (fun gg2 => (runs_last baseO (Sx.Ends.of (gn1_p3 d n F j) ⟨(okc ?_ (okc ?_ (okc gg0 (okc ?_ (okc ?_ (okc ?_ (okc gg1 (okc ?_ (okc gg2 (okc ?_ (okc ?_ (okc ?_ okn)))))))))))), ?_⟩) (by kernel_rfl) rfl (gtL (by decide)) (by decide)))))
  all_goals first | (refine And.intro ?_ ?_ <;> ((simp (disch := omega) only [SS, sb_def, Go.Sx.sum, Int.toNat_natCast, gnB, h, hm]); (repeat' apply And.intro); (all_goals first | exact True.intro | with_reducible rfl | omega | (rw [Bool.eq_iff_iff]; simp_all [sb]; done) | (rw [Bool.eq_iff_iff]; simp_all [sb]; omega) | (rw [Bool.eq_iff_iff]; simp [sb] at *; first | omega | (intro _; omega) | (left; omega) | (simp_all; done) | (intros; simp_all; omega)) | (simp_all [sb]; done) | (simp_all [sb]; omega) | (simp_all [sb]; first | (left; omega) | (intro _; omega))))) | (((try simp (disch := omega) only [SS, hm, sb_def, Go.Sx.sum, Int.toNat_natCast, h]); first | done | omega | assumption | (simp (disch := omega) only [SS, hm, sb_def, Go.Sx.sum, Int.toNat_natCast, h] at *; first | done | omega | assumption) | (simp_all; done)))

theorem gnI (d : List UInt8) (n : Nat) (F : Ix → Bool) (j : Nat) (h : j < d.length ∧ d.length ≤ n ∧ d.length ≤ 1000) : RunsTo Try.prog 23 [.code (bodyOf Try.f23)] (envOf [vS d, vL 61 1 n, vN j] Try.f23.ntmps) (Sx.look (rbE 61 n F ++ ([]))) 80 (vB (gnB d F j)) (Sx.look []) 140 := by
  by_cases hj : j = 0
  · have q := gn0 d n F j h.1 h.2.1 h.2.2 hj
    rw [show gnB d F j = false by simp [gnB, hj]]; exact q
  · exact gn1 d n F j h.1 h.2.1 h.2.2 (by omega)
def gnP : PC := { args := [.v (.vs 0), .v (.vl 61 1 1), .v (.vi .i64 3)], heap := [⟨61, false, 1, .ta 1 (.vb 2)⟩], gs := [], G := 0, tp := 999, n := 80, n' := 140, cond := fun e => decide (0 ≤ eI e 3 []) && decide ((eI e 3 []).toNat < (eS e 0 []).length ∧ (eS e 0 []).length ≤ eN e 1 ∧ (eS e 0 []).length ≤ 1000), v := fun e => vB (gnB (eS e 0 []) (eB e 2) (eI e 3 []).toNat), post := fun e => [] }
theorem gnP_pc : PC.Runs Try.prog 23 Try.f23 (bodyOf Try.f23) gnP := ⟨Try.func23, by kernel_rfl, (fun g hg => by first | (cases hg; done) | (revert g; show ∀ g ∈ ([] : List Nat), g < 0; decide)), fun e H hc => by
  have hc : (decide (0 ≤ eI e 3 []) && decide ((eI e 3 []).toNat < (eS e 0 []).length ∧ (eS e 0 []).length ≤ eN e 1 ∧ (eS e 0 []).length ≤ 1000)) = true := hc
  try simp only [Bool.and_eq_true, decide_eq_true_eq, Nat.beq_eq] at hc
  exact by have hj : ((eI e 3 []).toNat : Int) = eI e 3 [] := Int.toNat_of_nonneg hc.1; have q := gnI (eS e 0 []) (eN e 1) (eB e 2) (eI e 3 []).toNat hc.2; rw [hj] at q; exact q⟩
def sumsC : List (FuncId × Summ) := [(22, ksP.summ 0), (23, gnP.summ 0)]
theorem baseC : Base0 Try.prog sumsC := ((baseO.cons Try.func23 (by kernel_rfl) (PC.summ_ok gnP_pc gtopG)).cons Try.func22 (by kernel_rfl) (PC.summ_ok ksP_pc gtopG))
theorem c0_p0 (NM NR : Nat) (MK RW : Ix → Bool) (s : List UInt8) :
    isMore (evTill Try.prog sumsC 600 (behind Try.f8 0) 900 8 [.code (bodyOf Try.f8)] (envOf [vS s, vL 61 1 NM, vL 62 1 NR] Try.f8.ntmps) ((rbE 61 NM MK ++ rbE 62 NR RW) ++ ([])) ⟨[.s true, .s true, .s true], 80⟩) (moreP (headOf Try.f8 0) ([(104, Rn.to 320), (105, Rn.to 321), (106, Rn.to 322)]) Try.f8.ntmps ([(1, vL 61 1 NM), (2, vL 62 1 NR), (8, vL 102 5 ((toksR (s.length + 1) 0 s).map Prod.fst).length), (9, vL 103 1 ((toksR (s.length + 1) 0 s).map Prod.fst).length), (10, vL 104 1 ((toksR (s.length + 1) 0 s).map Prod.fst).length), (11, vS (([] : List UInt8))), (12, vL 105 1 (([] : List Bool)).length), (13, vL 106 1 (([] : List Nat)).length), (14, vN (0 : Nat)), (15, vB false), (33, vL 102 5 ((toksR (s.length + 1) 0 s).map Prod.fst).length), (34, vN ((toksR (s.length + 1) 0 s).map Prod.fst).length), (35, vN (0 : Nat))]) ((dE 102 ((toksR (s.length + 1) 0 s).map Prod.fst) ++ [⟨103, true, none, 1, .ta ((toksR (s.length + 1) 0 s).map Prod.fst).length (.vi .i64 (lN ((toksR (s.length + 1) 0 s).map Prod.snd)))⟩]) ++ (wbE 104 ((toksR (s.length + 1) 0 s).map Prod.fst).length (fun _ => false) ++ (fE 105 (([] : List Bool)) ++ nE 106 (([] : List Nat))))) 400) =
    (OkL [(decide (s.length ≤ (200 : Nat)), true), (decide ((0 : Int) ≤ (↑(List.map (fun self => self.1) (toksR (s.length + (1 : Nat)) (0 : Nat) s)).length : Int) ∧ (↑(List.map (fun self => self.1) (toksR (s.length + (1 : Nat)) (0 : Nat) s)).length : Int) ≤ (↑(List.map (fun self => self.1) (toksR (s.length + (1 : Nat)) (0 : Nat) s)).length : Int)), true), (decide ((↑(1 : Nat) : Int) * (↑(List.map (fun self => self.1) (toksR (s.length + (1 : Nat)) (0 : Nat) s)).length : Int) ≤ 281474976710656), true)] ∧ headOf Try.f8 0 = headOf Try.f8 0 ∧ ((0 = 0 ∧ NM = NM) ∧ (0 = 0 ∧ NR = NR) ∧ (0 = 0 ∧ (List.map (fun self => self.1) (toksR (s.length + (1 : Nat)) (0 : Nat) s)).length = (List.map (fun self => self.1) (toksR (s.length + (1 : Nat)) (0 : Nat) s)).length) ∧ (0 = 0 ∧ (List.map (fun self => self.1) (toksR (s.length + (1 : Nat)) (0 : Nat) s)).length = (List.map (fun self => self.2) (toksR (s.length + (1 : Nat)) (0 : Nat) s)).length) ∧ (0 = 0 ∧ (List.map (fun self => self.1) (toksR (s.length + (1 : Nat)) (0 : Nat) s)).length = (↑(List.map (fun self => self.1) (toksR (s.length + (1 : Nat)) (0 : Nat) s)).length : Int).toNat) ∧ ([] : List UInt8) = [] ∧ (0 = 0 ∧ 0 = 0) ∧ (0 = 0 ∧ 0 = 0) ∧ (↑(0 : Nat) : Int) = (0 : Int) ∧ false = false ∧ (0 = 0 ∧ (List.map (fun self => self.1) (toksR (s.length + (1 : Nat)) (0 : Nat) s)).length = (List.map (fun self => self.1) (toksR (s.length + (1 : Nat)) (0 : Nat) s)).length) ∧ (↑(List.map (fun self => self.1) (toksR (s.length + (1 : Nat)) (0 : Nat) s)).length : Int) = (↑(List.map (fun self => self.1) (toksR (s.length + (1 : Nat)) (0 : Nat) s)).length : Int) ∧ (↑(0 : Nat) : Int) = (0 : Int)) ∧ ((List.map (fun self => self.1) (toksR (s.length + (1 : Nat)) (0 : Nat) s)).length = (List.map (fun self => self.1) (toksR (s.length + (1 : Nat)) (0 : Nat) s)).length ∧ (∀ (i : Nat), i < (List.map (fun self => self.1) (toksR (s.length + (1 : Nat)) (0 : Nat) s)).length → tK (List.map (fun self => self.1) (toksR (s.length + (1 : Nat)) (0 : Nat) s)) [i] = tK (List.map (fun self => self.1) (toksR (s.length + (1 : Nat)) (0 : Nat) s)) [i]) ∧ (∀ (i : Nat), i < (List.map (fun self => self.1) (toksR (s.length + (1 : Nat)) (0 : Nat) s)).length → tC (List.map (fun self => self.1) (toksR (s.length + (1 : Nat)) (0 : Nat) s)) [i] = tC (List.map (fun self => self.1) (toksR (s.length + (1 : Nat)) (0 : Nat) s)) [i]) ∧ (∀ (i : Nat), i < (List.map (fun self => self.1) (toksR (s.length + (1 : Nat)) (0 : Nat) s)).length → tO (List.map (fun self => self.1) (toksR (s.length + (1 : Nat)) (0 : Nat) s)) [i] = tO (List.map (fun self => self.1) (toksR (s.length + (1 : Nat)) (0 : Nat) s)) [i]) ∧ (∀ (i : Nat), i < (List.map (fun self => self.1) (toksR (s.length + (1 : Nat)) (0 : Nat) s)).length → tS (List.map (fun self => self.1) (toksR (s.length + (1 : Nat)) (0 : Nat) s)) [i] = tS (List.map (fun self => self.1) (toksR (s.length + (1 : Nat)) (0 : Nat) s)) [i]) ∧ ∀ (i : Nat), i < (List.map (fun self => self.1) (toksR (s.length + (1 : Nat)) (0 : Nat) s)).length → tU [i] = tU [i]) ∧ ((List.map (fun self => self.1) (toksR (s.length + (1 : Nat)) (0 : Nat) s)).length = (List.map (fun self => self.2) (toksR (s.length + (1 : Nat)) (0 : Nat) s)).length ∧ ∀ (i : Nat), i < (List.map (fun self => self.1) (toksR (s.length + (1 : Nat)) (0 : Nat) s)).length → lN (List.map (fun self => self.2) (toksR (s.length + (1 : Nat)) (0 : Nat) s)) [i] = lN (List.map (fun self => self.2) (toksR (s.length + (1 : Nat)) (0 : Nat) s)) [i]) ∧ ((List.map (fun self => self.1) (toksR (s.length + (1 : Nat)) (0 : Nat) s)).length = (↑(List.map (fun self => self.1) (toksR (s.length + (1 : Nat)) (0 : Nat) s)).length : Int).toNat ∧ ∀ (i : Nat), i < (List.map (fun self => self.1) (toksR (s.length + (1 : Nat)) (0 : Nat) s)).length → false = false) ∧ (0 = 0 ∧ ∀ (i : Nat), i < (0 : Nat) → [].getD i false = false) ∧ 0 = 0 ∧ ∀ (i : Nat), i < (0 : Nat) → lN [] [i] = (0 : Int)) := by kernel_rfl

set_option maxHeartbeats 4000000 in
theorem c0 (NM NR : Nat) (MK RW : Ix → Bool) (s : List UInt8) (hs : s.length ≤ 200)  (v : SV) (L' : HF) (next : RunsTo Try.prog 8 (headOf Try.f8 0) (envAt Try.f8.ntmps ([(1, vL 61 1 NM), (2, vL 62 1 NR), (8, vL 102 5 ((toksR (s.length + 1) 0 s).map Prod.fst).length), (9, vL 103 1 ((toksR (s.length + 1) 0 s).map Prod.fst).length), (10, vL 104 1 ((toksR (s.length + 1) 0 s).map Prod.fst).length), (11, vS (([] : List UInt8))), (12, vL 105 1 (([] : List Bool)).length), (13, vL 106 1 (([] : List Nat)).length), (14, vN (0 : Nat)), (15, vB false), (33, vL 102 5 ((toksR (s.length + 1) 0 s).map Prod.fst).length), (34, vN ((toksR (s.length + 1) 0 s).map Prod.fst).length), (35, vN (0 : Nat))])) (Sx.look ((rbE 61 NM MK ++ rbE 62 NR RW) ++ ((dE 102 ((toksR (s.length + 1) 0 s).map Prod.fst) ++ [⟨103, true, none, 1, .ta ((toksR (s.length + 1) 0 s).map Prod.fst).length (.vi .i64 (lN ((toksR (s.length + 1) 0 s).map Prod.snd)))⟩]) ++ (wbE 104 ((toksR (s.length + 1) 0 s).map Prod.fst).length (fun _ => false) ++ (fE 105 (([] : List Bool)) ++ nE 106 (([] : List Nat))))))) 80 (v) (L') 400) :
    RunsTo Try.prog 8 [.code (bodyOf Try.f8)] (envOf [vS s, vL 61 1 NM, vL 62 1 NR] Try.f8.ntmps) (Sx.look ((rbE 61 NM MK ++ rbE 62 NR RW) ++ ([]))) 80 (v) (L') 400 := by
  have hTl0 : (toksR (s.length + 1) 0 s).length ≤ 1000 := Nat.le_trans (toks_len _ _ _) (by omega)
  have hTl : (((toksR (s.length + 1) 0 s).map Prod.fst)).length ≤ 1000 := by rw [List.length_map]; exact hTl0
  have hTE : (((toksR (s.length + 1) 0 s).map Prod.snd)).length = (((toksR (s.length + 1) 0 s).map Prod.fst)).length := by rw [List.length_map, List.length_map]
  refine runs_more baseC (More.of (c0_p0 NM NR MK RW s) ⟨(okc ?_ (okc ?_ (okc ?_ okn))), rfl, ?_⟩) (by kernel_rfl) (by kernel_rfl) rfl (gtL (by decide)) (by decide) next
  all_goals clear next
  all_goals first | (refine And.intro ?_ ?_ <;> ((try simp (disch := omega) only [SS, hTE]); (repeat' apply And.intro); (all_goals first | exact True.intro | with_reducible rfl | omega | (intros; first | exact True.intro | with_reducible rfl | omega | (simp_all; done)) | (simp_all; done) | rfl))) | (first | omega | (simp only [SS, hTE]; done) | (simp; omega) | (simp_all; done) | (simp_all; omega))

theorem c1_p0 (NM NR : Nat) (MK RW : Ix → Bool) (T : List Tok) (E : List Nat) (S : Ix → Bool) (d : List UInt8) (F : List Bool) (P : List Nat) (i last : Nat) (df : Bool) :
    isMore (evTill Try.prog sumsC 600 (behind Try.f8 1) 900 8 (headOf Try.f8 0) (envAt Try.f8.ntmps ([(1, vL 61 1 NM), (2, vL 62 1 NR), (8, vL 102 5 T.length), (9, vL 103 1 T.length), (10, vL 104 1 T.length), (11, vS (d)), (12, vL 105 1 (F).length), (13, vL 106 1 (P).length), (14, vN (last : Nat)), (15, vB df), (33, vL 102 5 T.length), (34, vN T.length), (35, vN (i : Nat))])) ((rbE 61 NM MK ++ rbE 62 NR RW) ++ ((dE 102 T ++ [⟨103, true, none, 1, .ta T.length (.vi .i64 (lN E))⟩]) ++ (wbE 104 T.length (S) ++ (fE 105 (F) ++ nE 106 (P))))) ⟨[.s true, .s true, .s true, .s true], 130⟩) (moreP (headOf Try.f8 1) ([(111, Rn.to 130)]) Try.f8.ntmps ([(1, vL 61 1 NM), (2, vL 62 1 NR), (8, vL 102 5 T.length), (9, vL 103 1 T.length), (10, vL 104 1 T.length), (11, vS (d)), (12, vL 105 1 (F).length), (13, vL 106 1 (P).length), (14, vN (last : Nat)), (15, vB df), (16, vN (i : Nat)), (17, vP 111), (33, vL 102 5 T.length), (34, vN T.length), (35, vN (i : Nat))]) (oE 111 (T.getD i z0) ++ ((dE 102 T ++ [⟨103, true, none, 1, .ta T.length (.vi .i64 (lN E))⟩]) ++ (wbE 104 T.length (S) ++ (fE 105 (F) ++ nE 106 (P))))) 400) =
    (OkL [(decide ((i : Int) < (↑T.length : Int)), true), (decide ((0 : Int) ≤ (i : Int) ∧ (i : Int) < (↑T.length : Int)), true), ((0 + (i : Int).toNat).blt T.length, true), ((0 + (i : Int).toNat).blt T.length, true)] ∧ headOf Try.f8 1 = headOf Try.f8 1 ∧ ((0 = 0 ∧ NM = NM) ∧ (0 = 0 ∧ NR = NR) ∧ (0 = 0 ∧ T.length = T.length) ∧ (0 = 0 ∧ T.length = T.length) ∧ (0 = 0 ∧ T.length = T.length) ∧ d = d ∧ (0 = 0 ∧ F.length = F.length) ∧ (0 = 0 ∧ P.length = P.length) ∧ (last : Int) = (last : Int) ∧ df = df ∧ (i : Int) = (i : Int) ∧ 0 = 0 ∧ (0 = 0 ∧ T.length = T.length) ∧ (↑T.length : Int) = (↑T.length : Int) ∧ (i : Int) = (i : Int)) ∧ ((↑(T.getD i z0).1 : Int) = tK T [0 + (i : Int).toNat] ∧ (↑(T.getD i z0).2 : Int) = tC T [0 + (i : Int).toNat] ∧ (↑(T.getD i z0).3 : Int) = tO T [0 + (i : Int).toNat] ∧ (T.getD i z0).4 = tS T [0 + (i : Int).toNat] ∧ false = tU [0 + (i : Int).toNat]) ∧ (T.length = T.length ∧ (∀ (i : Nat), i < T.length → tK T [i] = tK T [i]) ∧ (∀ (i : Nat), i < T.length → tC T [i] = tC T [i]) ∧ (∀ (i : Nat), i < T.length → tO T [i] = tO T [i]) ∧ (∀ (i : Nat), i < T.length → tS T [i] = tS T [i]) ∧ ∀ (i : Nat), i < T.length → tU [i] = tU [i]) ∧ (T.length = T.length ∧ ∀ (i : Nat), i < T.length → lN E [i] = lN E [i]) ∧ (T.length = T.length ∧ ∀ (i : Nat), i < T.length → S [i] = S [i]) ∧ (F.length = F.length ∧ ∀ (i : Nat), i < F.length → F.getD i false = F.getD i false) ∧ P.length = P.length ∧ ∀ (i : Nat), i < P.length → lN P [i] = lN P [i]) := by kernel_rfl

set_option maxHeartbeats 4000000 in
theorem c1 (NM NR : Nat) (MK RW : Ix → Bool) (T : List Tok) (E : List Nat) (S : Ix → Bool) (d : List UInt8) (F : List Bool) (P : List Nat) (i last : Nat) (df : Bool) (hi : i < T.length) (hE : E.length = T.length) (hT : T.length ≤ 1000) (hd : d.length ≤ 1000) (hF : F.length ≤ 1000) (hP : P.length ≤ 1000) (hl : last ≤ 1000)  (v : SV) (L' : HF) (next : RunsTo Try.prog 8 (headOf Try.f8 1) (envAt Try.f8.ntmps ([(1, vL 61 1 NM), (2, vL 62 1 NR), (8, vL 102 5 T.length), (9, vL 103 1 T.length), (10, vL 104 1 T.length), (11, vS (d)), (12, vL 105 1 (F).length), (13, vL 106 1 (P).length), (14, vN (last : Nat)), (15, vB df), (16, vN (i : Nat)), (17, vP 111), (33, vL 102 5 T.length), (34, vN T.length), (35, vN (i : Nat))])) (Sx.look ((rbE 61 NM MK ++ rbE 62 NR RW) ++ (oE 111 (T.getD i z0) ++ ((dE 102 T ++ [⟨103, true, none, 1, .ta T.length (.vi .i64 (lN E))⟩]) ++ (wbE 104 T.length (S) ++ (fE 105 (F) ++ nE 106 (P))))))) 80 (v) (L') 400) :
    RunsTo Try.prog 8 (headOf Try.f8 0) (envAt Try.f8.ntmps ([(1, vL 61 1 NM), (2, vL 62 1 NR), (8, vL 102 5 T.length), (9, vL 103 1 T.length), (10, vL 104 1 T.length), (11, vS (d)), (12, vL 105 1 (F).length), (13, vL 106 1 (P).length), (14, vN (last : Nat)), (15, vB df), (33, vL 102 5 T.length), (34, vN T.length), (35, vN (i : Nat))])) (Sx.look ((rbE 61 NM MK ++ rbE 62 NR RW) ++ ((dE 102 T ++ [⟨103, true, none, 1, .ta T.length (.vi .i64 (lN E))⟩]) ++ (wbE 104 T.length (S) ++ (fE 105 (F) ++ nE 106 (P)))))) 80 (v) (L') 400 := by
  have hw : IntKind.i64.wrap ((i : Int) + 1) = ((i + 1 : Nat) : Int) := by rw [wr64 (by omega)]; rfl
  have hw2 : IntKind.i64.wrap ((last : Int) + 1) = ((last + 1 : Nat) : Int) := by rw [wr64 (by omega)]; rfl
  refine runs_more baseC (More.of (c1_p0 NM NR MK RW T E S d F P i last df) ⟨(okc ?_ (okc ?_ (okc ?_ (okc ?_ okn)))), rfl, ?_⟩) (by kernel_rfl) (by kernel_rfl) rfl (gtL (by decide)) (by decide) next
  all_goals clear next
  all_goals first | (refine And.intro ?_ ?_ <;> ((simp (disch := omega) only [SS, hw, hw2, Go.Sx.sum, List.length_append, List.length_cons, List.length_nil, Nat.zero_add]); (repeat' apply And.intro); (all_goals first | exact True.intro | with_reducible rfl | omega | (simp only [tK, tC, tO, tS, tU, lN, List.headD_cons, List.headD]; done) | (simp [tK, tC, tO, tS, tU, lN]; done) | exact app_byte1 d _ _ (by simp_all) | exact fA F _ _ (by first | rfl | (simp_all; done) | (simp [subIx]; done)) | (intro k hk; simp_all [upd]; done) | (intro k hk; simp only [upd]; split <;> simp_all; done) | exact lNA P _ _ rfl | (intros; rfl) | (intros; simp_all; done) | (simp_all; done)))) | (((try simp (disch := omega) only [SS, hw, hw2]); first | done | omega | assumption | (simp (disch := omega) only [SS, hw, hw2] at *; first | done | omega | assumption) | (simp_all; done)))

theorem c1s_p0 (NM NR : Nat) (MK RW : Ix → Bool) (T : List Tok) (E : List Nat) (S : Ix → Bool) (d : List UInt8) (F : List Bool) (P : List Nat) (i last : Nat) (df : Bool) :
    isMore (evTill Try.prog sumsC 600 (behind Try.f8 1) 900 8 (headOf Try.f8 1) (envAt Try.f8.ntmps ([(1, vL 61 1 NM), (2, vL 62 1 NR), (8, vL 102 5 T.length), (9, vL 103 1 T.length), (10, vL 104 1 T.length), (11, vS (d)), (12, vL 105 1 (F).length), (13, vL 106 1 (P).length), (14, vN (last : Nat)), (15, vB df), (16, vN (i : Nat)), (17, vP 111), (33, vL 102 5 T.length), (34, vN T.length), (35, vN (i : Nat))])) ((rbE 61 NM MK ++ rbE 62 NR RW) ++ (oE 111 (T.getD i z0) ++ ((dE 102 T ++ [⟨103, true, none, 1, .ta T.length (.vi .i64 (lN E))⟩]) ++ (wbE 104 T.length (S) ++ (fE 105 (F) ++ nE 106 (P)))))) ⟨[.s true, .s true, .s true, .s true, .s false, .s true, .s true, .s true], 130⟩) (moreP (headOf Try.f8 1) ([]) Try.f8.ntmps ([(1, vL 61 1 NM), (2, vL 62 1 NR), (8, vL 102 5 T.length), (9, vL 103 1 T.length), (10, vL 104 1 T.length), (11, vS (d)), (12, vL 105 1 (F).length), (13, vL 106 1 (P).length), (14, vN (last + 1 : Nat)), (15, vB (df || MK [last])), (16, vN (i : Nat)), (17, vP 111), (33, vL 102 5 T.length), (34, vN T.length), (35, vN (i : Nat))]) (oE 111 (T.getD i z0) ++ ((dE 102 T ++ [⟨103, true, none, 1, .ta T.length (.vi .i64 (lN E))⟩]) ++ (wbE 104 T.length (S) ++ (fE 105 (F) ++ nE 106 (P))))) 400) =
    (OkL [(decide ((0 : Int) ≤ (i : Int) ∧ (i : Int) < (↑T.length : Int)), true), ((0 + (i : Int).toNat).blt T.length, true), ((0 + (i : Int).toNat).blt T.length, true), (decide ((last : Int) ≤ lN E [0 + (i : Int).toNat]), true), (df, false), (decide ((0 : Int) ≤ (last : Int) ∧ (last : Int) < (NM : Int)), true), ((0 + (last : Int).toNat).blt NM, true), ((0 + (last : Int).toNat).blt NM, true)] ∧ headOf Try.f8 1 = headOf Try.f8 1 ∧ ((0 = 0 ∧ NM = NM) ∧ (0 = 0 ∧ NR = NR) ∧ (0 = 0 ∧ T.length = T.length) ∧ (0 = 0 ∧ T.length = T.length) ∧ (0 = 0 ∧ T.length = T.length) ∧ d = d ∧ (0 = 0 ∧ F.length = F.length) ∧ (0 = 0 ∧ P.length = P.length) ∧ (↑(last + (1 : Nat)) : Int) = IntKind.i64.wrap ((last : Int) + 1) ∧ (df || MK [last]) = MK [0 + (last : Int).toNat] ∧ (i : Int) = (i : Int) ∧ 0 = 0 ∧ (0 = 0 ∧ T.length = T.length) ∧ (↑T.length : Int) = (↑T.length : Int) ∧ (i : Int) = (i : Int)) ∧ ((↑(T.getD i z0).1 : Int) = (↑(T.getD i z0).1 : Int) ∧ (↑(T.getD i z0).2 : Int) = (↑(T.getD i z0).2 : Int) ∧ (↑(T.getD i z0).3 : Int) = (↑(T.getD i z0).3 : Int) ∧ (T.getD i z0).4 = (T.getD i z0).4 ∧ false = false) ∧ (T.length = T.length ∧ (∀ (i : Nat), i < T.length → tK T [i] = tK T [i]) ∧ (∀ (i : Nat), i < T.length → tC T [i] = tC T [i]) ∧ (∀ (i : Nat), i < T.length → tO T [i] = tO T [i]) ∧ (∀ (i : Nat), i < T.length → tS T [i] = tS T [i]) ∧ ∀ (i : Nat), i < T.length → tU [i] = tU [i]) ∧ (T.length = T.length ∧ ∀ (i : Nat), i < T.length → lN E [i] = lN E [i]) ∧ (T.length = T.length ∧ ∀ (i : Nat), i < T.length → S [i] = S [i]) ∧ (F.length = F.length ∧ ∀ (i : Nat), i < F.length → F.getD i false = F.getD i false) ∧ P.length = P.length ∧ ∀ (i : Nat), i < P.length → lN P [i] = lN P [i]) := by kernel_rfl
theorem c1s_p1 (NM NR : Nat) (MK RW : Ix → Bool) (T : List Tok) (E : List Nat) (S : Ix → Bool) (d : List UInt8) (F : List Bool) (P : List Nat) (i last : Nat) (df : Bool) :
    isMore (evTill Try.prog sumsC 600 (behind Try.f8 1) 900 8 (headOf Try.f8 1) (envAt Try.f8.ntmps ([(1, vL 61 1 NM), (2, vL 62 1 NR), (8, vL 102 5 T.length), (9, vL 103 1 T.length), (10, vL 104 1 T.length), (11, vS (d)), (12, vL 105 1 (F).length), (13, vL 106 1 (P).length), (14, vN (last : Nat)), (15, vB df), (16, vN (i : Nat)), (17, vP 111), (33, vL 102 5 T.length), (34, vN T.length), (35, vN (i : Nat))])) ((rbE 61 NM MK ++ rbE 62 NR RW) ++ (oE 111 (T.getD i z0) ++ ((dE 102 T ++ [⟨103, true, none, 1, .ta T.length (.vi .i64 (lN E))⟩]) ++ (wbE 104 T.length (S) ++ (fE 105 (F) ++ nE 106 (P)))))) ⟨[.s true, .s true, .s true, .s true, .s true], 130⟩) (moreP (headOf Try.f8 1) ([]) Try.f8.ntmps ([(1, vL 61 1 NM), (2, vL 62 1 NR), (8, vL 102 5 T.length), (9, vL 103 1 T.length), (10, vL 104 1 T.length), (11, vS (d)), (12, vL 105 1 (F).length), (13, vL 106 1 (P).length), (14, vN (last + 1 : Nat)), (15, vB (df || MK [last])), (16, vN (i : Nat)), (17, vP 111), (33, vL 102 5 T.length), (34, vN T.length), (35, vN (i : Nat))]) (oE 111 (T.getD i z0) ++ ((dE 102 T ++ [⟨103, true, none, 1, .ta T.length (.vi .i64 (lN E))⟩]) ++ (wbE 104 T.length (S) ++ (fE 105 (F) ++ nE 106 (P))))) 400) =
    (OkL [(decide ((0 : Int) ≤ (i : Int) ∧ (i : Int) < (↑T.length : Int)), true), ((0 + (i : Int).toNat).blt T.length, true), ((0 + (i : Int).toNat).blt T.length, true), (decide ((last : Int) ≤ lN E [0 + (i : Int).toNat]), true), (df, true)] ∧ headOf Try.f8 1 = headOf Try.f8 1 ∧ ((0 = 0 ∧ NM = NM) ∧ (0 = 0 ∧ NR = NR) ∧ (0 = 0 ∧ T.length = T.length) ∧ (0 = 0 ∧ T.length = T.length) ∧ (0 = 0 ∧ T.length = T.length) ∧ d = d ∧ (0 = 0 ∧ F.length = F.length) ∧ (0 = 0 ∧ P.length = P.length) ∧ (↑(last + (1 : Nat)) : Int) = IntKind.i64.wrap ((last : Int) + 1) ∧ (df || MK [last]) = true ∧ (i : Int) = (i : Int) ∧ 0 = 0 ∧ (0 = 0 ∧ T.length = T.length) ∧ (↑T.length : Int) = (↑T.length : Int) ∧ (i : Int) = (i : Int)) ∧ ((↑(T.getD i z0).1 : Int) = (↑(T.getD i z0).1 : Int) ∧ (↑(T.getD i z0).2 : Int) = (↑(T.getD i z0).2 : Int) ∧ (↑(T.getD i z0).3 : Int) = (↑(T.getD i z0).3 : Int) ∧ (T.getD i z0).4 = (T.getD i z0).4 ∧ false = false) ∧ (T.length = T.length ∧ (∀ (i : Nat), i < T.length → tK T [i] = tK T [i]) ∧ (∀ (i : Nat), i < T.length → tC T [i] = tC T [i]) ∧ (∀ (i : Nat), i < T.length → tO T [i] = tO T [i]) ∧ (∀ (i : Nat), i < T.length → tS T [i] = tS T [i]) ∧ ∀ (i : Nat), i < T.length → tU [i] = tU [i]) ∧ (T.length = T.length ∧ ∀ (i : Nat), i < T.length → lN E [i] = lN E [i]) ∧ (T.length = T.length ∧ ∀ (i : Nat), i < T.length → S [i] = S [i]) ∧ (F.length = F.length ∧ ∀ (i : Nat), i < F.length → F.getD i false = F.getD i false) ∧ P.length = P.length ∧ ∀ (i : Nat), i < P.length → lN P [i] = lN P [i]) := by kernel_rfl

set_option maxHeartbeats 4000000 in
theorem c1s (NM NR : Nat) (MK RW : Ix → Bool) (T : List Tok) (E : List Nat) (S : Ix → Bool) (d : List UInt8) (F : List Bool) (P : List Nat) (i last : Nat) (df : Bool) (hi : i < T.length) (hE : E.length = T.length) (hT : T.length ≤ 1000) (hd : d.length ≤ 1000) (hF : F.length ≤ 1000) (hP : P.length ≤ 1000) (hl : last ≤ 1000) (hle : lN E [i] ≥ last) (hM : last < NM)  (v : SV) (L' : HF) (next : RunsTo Try.prog 8 (headOf Try.f8 1) (envAt Try.f8.ntmps ([(1, vL 61 1 NM), (2, vL 62 1 NR), (8, vL 102 5 T.length), (9, vL 103 1 T.length), (10, vL 104 1 T.length), (11, vS (d)), (12, vL 105 1 (F).length), (13, vL 106 1 (P).length), (14, vN (last + 1 : Nat)), (15, vB (df || MK [last])), (16, vN (i : Nat)), (17, vP 111), (33, vL 102 5 T.length), (34, vN T.length), (35, vN (i : Nat))])) (Sx.look ((rbE 61 NM MK ++ rbE 62 NR RW) ++ (oE 111 (T.getD i z0) ++ ((dE 102 T ++ [⟨103, true, none, 1, .ta T.length (.vi .i64 (lN E))⟩]) ++ (wbE 104 T.length (S) ++ (fE 105 (F) ++ nE 106 (P))))))) 80 (v) (L') 400) :
    RunsTo Try.prog 8 (headOf Try.f8 1) (envAt Try.f8.ntmps ([(1, vL 61 1 NM), (2, vL 62 1 NR), (8, vL 102 5 T.length), (9, vL 103 1 T.length), (10, vL 104 1 T.length), (11, vS (d)), (12, vL 105 1 (F).length), (13, vL 106 1 (P).length), (14, vN (last : Nat)), (15, vB df), (16, vN (i : Nat)), (17, vP 111), (33, vL 102 5 T.length), (34, vN T.length), (35, vN (i : Nat))])) (Sx.look ((rbE 61 NM MK ++ rbE 62 NR RW) ++ (oE 111 (T.getD i z0) ++ ((dE 102 T ++ [⟨103, true, none, 1, .ta T.length (.vi .i64 (lN E))⟩]) ++ (wbE 104 T.length (S) ++ (fE 105 (F) ++ nE 106 (P))))))) 80 (v) (L') 400 := by
  have hw : IntKind.i64.wrap ((i : Int) + 1) = ((i + 1 : Nat) : Int) := by rw [wr64 (by omega)]; rfl
  have hw2 : IntKind.i64.wrap ((last : Int) + 1) = ((last + 1 : Nat) : Int) := by rw [wr64 (by omega)]; rfl
  refine bcase (c := (df)) (fun gg0 => (runs_more baseC (More.of (c1s_p0 NM NR MK RW T E S d F P i last df) ⟨(okc ?_ (okc ?_ (okc ?_ (okc ?_ (okc gg0 (okc ?_ (okc ?_ (okc ?_ okn)))))))), rfl, ?_⟩) (by kernel_rfl) (by kernel_rfl) rfl (gtL (by decide)) (by decide) next)) (fun gg0 => (runs_more baseC (More.of (c1s_p1 NM NR MK RW T E S d F P i last df) ⟨(okc ?_ (okc ?_ (okc ?_ (okc ?_ (okc gg0 okn))))), rfl, ?_⟩) (by kernel_rfl) (by kernel_rfl) rfl (gtL (by decide)) (by decide) next))
  all_goals clear next
  all_goals first | (refine And.intro ?_ ?_ <;> ((simp (disch := omega) only [SS, hw, hw2, Go.Sx.sum, List.length_append, List.length_cons, List.length_nil, Nat.zero_add]); (repeat' apply And.intro); (all_goals first | exact True.intro | with_reducible rfl | omega | (simp only [tK, tC, tO, tS, tU, lN, List.headD_cons, List.headD]; done) | (simp [tK, tC, tO, tS, tU, lN]; done) | exact app_byte1 d _ _ (by simp_all) | exact fA F _ _ (by first | rfl | (simp_all; done) | (simp [subIx]; done)) | (intro k hk; simp_all [upd]; done) | (intro k hk; simp only [upd]; split <;> simp_all; done) | exact lNA P _ _ rfl | (intros; rfl) | (intros; simp_all; done) | (simp_all; done)))) | (((try simp (disch := omega) only [SS, hw, hw2]); first | done | omega | assumption | (simp (disch := omega) only [SS, hw, hw2] at *; first | done | omega | assumption) | (simp_all; done)))

theorem cDM_p0 (NM NR : Nat) (MK RW : Ix → Bool) (T : List Tok) (E : List Nat) (S : Ix → Bool) (d : List UInt8) (F : List Bool) (P : List Nat) (i last : Nat) (df : Bool) (t : Tok) :
    isMore (evTill Try.prog sumsC 600 (behind Try.f8 0) 900 8 (headOf Try.f8 1) (envAt Try.f8.ntmps ([(1, vL 61 1 NM), (2, vL 62 1 NR), (8, vL 102 5 T.length), (9, vL 103 1 T.length), (10, vL 104 1 T.length), (11, vS (d)), (12, vL 105 1 (F).length), (13, vL 106 1 (P).length), (14, vN (last : Nat)), (15, vB df), (16, vN (i : Nat)), (17, vP 111), (33, vL 102 5 T.length), (34, vN T.length), (35, vN (i : Nat))])) ((rbE 61 NM MK ++ rbE 62 NR RW) ++ (oE 111 (T.getD i z0) ++ ((dE 102 T ++ [⟨103, true, none, 1, .ta T.length (.vi .i64 (lN E))⟩]) ++ (wbE 104 T.length (S) ++ (fE 105 (F) ++ nE 106 (P)))))) ⟨[.s true, .s true, .s true, .s false, .s true, .s true, .s true, .s true, .s true, .s false], 130⟩) (moreP (headOf Try.f8 0) ([]) Try.f8.ntmps ([(1, vL 61 1 NM), (2, vL 62 1 NR), (8, vL 102 5 T.length), (9, vL 103 1 T.length), (10, vL 104 1 T.length), (11, vS (d)), (12, vL 105 1 (F).length), (13, vL 106 1 (P).length), (14, vN (last : Nat)), (15, vB false), (33, vL 102 5 T.length), (34, vN T.length), (35, vN (i + 1 : Nat))]) ((dE 102 T ++ [⟨103, true, none, 1, .ta T.length (.vi .i64 (lN E))⟩]) ++ (wbE 104 T.length (upd S [i] true) ++ (fE 105 (F) ++ nE 106 (P)))) 400) =
    (OkL [(decide ((0 : Int) ≤ (i : Int) ∧ (i : Int) < (↑T.length : Int)), true), ((0 + (i : Int).toNat).blt T.length, true), ((0 + (i : Int).toNat).blt T.length, true), (decide ((last : Int) ≤ lN E [0 + (i : Int).toNat]), false), ((↑(T.getD i z0).1 : Int) == 2, true), ((↑(T.getD i z0).2 : Int) == 242, true), (decide ((0 : Int) ≤ (i : Int) ∧ (i : Int) < (↑T.length : Int)), true), ((0 + (i : Int).toNat).blt T.length, true), ((0 + (i : Int).toNat).blt T.length, true), ((↑(T.getD i z0).1 : Int) == 1, false)] ∧ headOf Try.f8 0 = headOf Try.f8 0 ∧ ((0 = 0 ∧ NM = NM) ∧ (0 = 0 ∧ NR = NR) ∧ (0 = 0 ∧ T.length = T.length) ∧ (0 = 0 ∧ T.length = T.length) ∧ (0 = 0 ∧ T.length = T.length) ∧ d = d ∧ (0 = 0 ∧ F.length = F.length) ∧ (0 = 0 ∧ P.length = P.length) ∧ (last : Int) = (last : Int) ∧ false = false ∧ (0 = 0 ∧ T.length = T.length) ∧ (↑T.length : Int) = (↑T.length : Int) ∧ (↑(i + (1 : Nat)) : Int) = IntKind.i64.wrap ((i : Int) + 1)) ∧ (T.length = T.length ∧ (∀ (i : Nat), i < T.length → tK T [i] = tK T [i]) ∧ (∀ (i : Nat), i < T.length → tC T [i] = tC T [i]) ∧ (∀ (i : Nat), i < T.length → tO T [i] = tO T [i]) ∧ (∀ (i : Nat), i < T.length → tS T [i] = tS T [i]) ∧ ∀ (i : Nat), i < T.length → tU [i] = tU [i]) ∧ (T.length = T.length ∧ ∀ (i : Nat), i < T.length → lN E [i] = lN E [i]) ∧ (T.length = T.length ∧ ∀ (i_1 : Nat), i_1 < T.length → upd S [i] true [i_1] = upd S [0 + (i : Int).toNat] ((↑(T.getD i z0).1 : Int) != (1 : Int)) [i_1]) ∧ (F.length = F.length ∧ ∀ (i : Nat), i < F.length → F.getD i false = F.getD i false) ∧ P.length = P.length ∧ ∀ (i : Nat), i < P.length → lN P [i] = lN P [i]) := by kernel_rfl

set_option maxHeartbeats 4000000 in
theorem cDM (NM NR : Nat) (MK RW : Ix → Bool) (T : List Tok) (E : List Nat) (S : Ix → Bool) (d : List UInt8) (F : List Bool) (P : List Nat) (i last : Nat) (df : Bool) (t : Tok) (hi : i < T.length) (hE : E.length = T.length) (hT : T.length ≤ 1000) (hd : d.length ≤ 1000) (hF : F.length ≤ 1000) (hP : P.length ≤ 1000) (hl : last ≤ 1000) (hgt : lN E [i] < last) (ht : T.getD i z0 = t) (h : t.kind = 2) (h2 : t.code = 242)  (v : SV) (L' : HF) (next : RunsTo Try.prog 8 (headOf Try.f8 0) (envAt Try.f8.ntmps ([(1, vL 61 1 NM), (2, vL 62 1 NR), (8, vL 102 5 T.length), (9, vL 103 1 T.length), (10, vL 104 1 T.length), (11, vS (d)), (12, vL 105 1 (F).length), (13, vL 106 1 (P).length), (14, vN (last : Nat)), (15, vB false), (33, vL 102 5 T.length), (34, vN T.length), (35, vN (i + 1 : Nat))])) (Sx.look ((rbE 61 NM MK ++ rbE 62 NR RW) ++ ((dE 102 T ++ [⟨103, true, none, 1, .ta T.length (.vi .i64 (lN E))⟩]) ++ (wbE 104 T.length (upd S [i] true) ++ (fE 105 (F) ++ nE 106 (P)))))) 80 (v) (L') 400) :
    RunsTo Try.prog 8 (headOf Try.f8 1) (envAt Try.f8.ntmps ([(1, vL 61 1 NM), (2, vL 62 1 NR), (8, vL 102 5 T.length), (9, vL 103 1 T.length), (10, vL 104 1 T.length), (11, vS (d)), (12, vL 105 1 (F).length), (13, vL 106 1 (P).length), (14, vN (last : Nat)), (15, vB df), (16, vN (i : Nat)), (17, vP 111), (33, vL 102 5 T.length), (34, vN T.length), (35, vN (i : Nat))])) (Sx.look ((rbE 61 NM MK ++ rbE 62 NR RW) ++ (oE 111 (T.getD i z0) ++ ((dE 102 T ++ [⟨103, true, none, 1, .ta T.length (.vi .i64 (lN E))⟩]) ++ (wbE 104 T.length (S) ++ (fE 105 (F) ++ nE 106 (P))))))) 80 (v) (L') 400 := by
  have hw : IntKind.i64.wrap ((i : Int) + 1) = ((i + 1 : Nat) : Int) := by rw [wr64 (by omega)]; rfl
  have hw2 : IntKind.i64.wrap ((last : Int) + 1) = ((last + 1 : Nat) : Int) := by rw [wr64 (by omega)]; rfl
  have tKi : tK T [i] = (t.kind : Int) := by simp only [tK, List.headD_cons, ht]
  refine runs_more baseC (More.of (cDM_p0 NM NR MK RW T E S d F P i last df t) ⟨(okc ?_ (okc ?_ (okc ?_ (okc ?_ (okc ?_ (okc ?_ (okc ?_ (okc ?_ (okc ?_ (okc ?_ okn)))))))))), rfl, ?_⟩) (by kernel_rfl) (by kernel_rfl) rfl (gtL (by decide)) (by decide) next
  all_goals clear next
  all_goals first | (refine And.intro ?_ ?_ <;> ((simp (disch := omega) only [SS, hw, hw2, ht, h, h2, Go.Sx.sum, List.length_append, List.length_cons, List.length_nil, Nat.zero_add]); (repeat' apply And.intro); (all_goals first | exact True.intro | with_reducible rfl | omega | (simp only [tK, tC, tO, tS, tU, lN, List.headD_cons, List.headD]; done) | (simp [tK, tC, tO, tS, tU, lN]; done) | exact app_byte1 d _ _ (by simp_all) | exact fA F _ _ (by first | rfl | (simp_all; done) | (simp [subIx]; done)) | (intro k hk; simp_all [upd]; done) | (intro k hk; simp only [upd]; split <;> simp_all; done) | exact lNA P _ _ rfl | (intros; rfl) | (intros; simp_all; done) | (simp_all; done)))) | (((try simp (disch := omega) only [SS, hw, hw2, ht, h, h2]); first | done | omega | assumption | (simp (disch := omega) only [SS, hw, hw2, ht, h, h2] at *; first | done | omega | assumption) | (simp_all; done)))

theorem cOth_p0 (NM NR : Nat) (MK RW : Ix → Bool) (T : List Tok) (E : List Nat) (S : Ix → Bool) (d : List UInt8) (F : List Bool) (P : List Nat) (i last : Nat) (df : Bool) (t : Tok) :
    isMore (evTill Try.prog sumsC 600 (behind Try.f8 0) 900 8 (headOf Try.f8 1) (envAt Try.f8.ntmps ([(1, vL 61 1 NM), (2, vL 62 1 NR), (8, vL 102 5 T.length), (9, vL 103 1 T.length), (10, vL 104 1 T.length), (11, vS (d)), (12, vL 105 1 (F).length), (13, vL 106 1 (P).length), (14, vN (last : Nat)), (15, vB df), (16, vN (i : Nat)), (17, vP 111), (33, vL 102 5 T.length), (34, vN T.length), (35, vN (i : Nat))])) ((rbE 61 NM MK ++ rbE 62 NR RW) ++ (oE 111 (T.getD i z0) ++ ((dE 102 T ++ [⟨103, true, none, 1, .ta T.length (.vi .i64 (lN E))⟩]) ++ (wbE 104 T.length (S) ++ (fE 105 (F) ++ nE 106 (P)))))) ⟨[.s true, .s true, .s true, .s false, .s false, .s true, .s true, .s true, .s false], 130⟩) (moreP (headOf Try.f8 0) ([]) Try.f8.ntmps ([(1, vL 61 1 NM), (2, vL 62 1 NR), (8, vL 102 5 T.length), (9, vL 103 1 T.length), (10, vL 104 1 T.length), (11, vS (d)), (12, vL 105 1 (F).length), (13, vL 106 1 (P).length), (14, vN (last : Nat)), (15, vB df), (33, vL 102 5 T.length), (34, vN T.length), (35, vN (i + 1 : Nat))]) ((dE 102 T ++ [⟨103, true, none, 1, .ta T.length (.vi .i64 (lN E))⟩]) ++ (wbE 104 T.length (upd S [i] true) ++ (fE 105 (F) ++ nE 106 (P)))) 400) =
    (OkL [(decide ((0 : Int) ≤ (i : Int) ∧ (i : Int) < (↑T.length : Int)), true), ((0 + (i : Int).toNat).blt T.length, true), ((0 + (i : Int).toNat).blt T.length, true), (decide ((last : Int) ≤ lN E [0 + (i : Int).toNat]), false), ((↑(T.getD i z0).1 : Int) == 2, false), (decide ((0 : Int) ≤ (i : Int) ∧ (i : Int) < (↑T.length : Int)), true), ((0 + (i : Int).toNat).blt T.length, true), ((0 + (i : Int).toNat).blt T.length, true), ((↑(T.getD i z0).1 : Int) == 1, false)] ∧ headOf Try.f8 0 = headOf Try.f8 0 ∧ ((0 = 0 ∧ NM = NM) ∧ (0 = 0 ∧ NR = NR) ∧ (0 = 0 ∧ T.length = T.length) ∧ (0 = 0 ∧ T.length = T.length) ∧ (0 = 0 ∧ T.length = T.length) ∧ d = d ∧ (0 = 0 ∧ F.length = F.length) ∧ (0 = 0 ∧ P.length = P.length) ∧ (last : Int) = (last : Int) ∧ df = df ∧ (0 = 0 ∧ T.length = T.length) ∧ (↑T.length : Int) = (↑T.length : Int) ∧ (↑(i + (1 : Nat)) : Int) = IntKind.i64.wrap ((i : Int) + 1)) ∧ (T.length = T.length ∧ (∀ (i : Nat), i < T.length → tK T [i] = tK T [i]) ∧ (∀ (i : Nat), i < T.length → tC T [i] = tC T [i]) ∧ (∀ (i : Nat), i < T.length → tO T [i] = tO T [i]) ∧ (∀ (i : Nat), i < T.length → tS T [i] = tS T [i]) ∧ ∀ (i : Nat), i < T.length → tU [i] = tU [i]) ∧ (T.length = T.length ∧ ∀ (i : Nat), i < T.length → lN E [i] = lN E [i]) ∧ (T.length = T.length ∧ ∀ (i_1 : Nat), i_1 < T.length → upd S [i] true [i_1] = upd S [0 + (i : Int).toNat] ((↑(T.getD i z0).1 : Int) != (1 : Int)) [i_1]) ∧ (F.length = F.length ∧ ∀ (i : Nat), i < F.length → F.getD i false = F.getD i false) ∧ P.length = P.length ∧ ∀ (i : Nat), i < P.length → lN P [i] = lN P [i]) := by kernel_rfl
theorem cOth_p1 (NM NR : Nat) (MK RW : Ix → Bool) (T : List Tok) (E : List Nat) (S : Ix → Bool) (d : List UInt8) (F : List Bool) (P : List Nat) (i last : Nat) (df : Bool) (t : Tok) :
    isMore (evTill Try.prog sumsC 600 (behind Try.f8 0) 900 8 (headOf Try.f8 1) (envAt Try.f8.ntmps ([(1, vL 61 1 NM), (2, vL 62 1 NR), (8, vL 102 5 T.length), (9, vL 103 1 T.length), (10, vL 104 1 T.length), (11, vS (d)), (12, vL 105 1 (F).length), (13, vL 106 1 (P).length), (14, vN (last : Nat)), (15, vB df), (16, vN (i : Nat)), (17, vP 111), (33, vL 102 5 T.length), (34, vN T.length), (35, vN (i : Nat))])) ((rbE 61 NM MK ++ rbE 62 NR RW) ++ (oE 111 (T.getD i z0) ++ ((dE 102 T ++ [⟨103, true, none, 1, .ta T.length (.vi .i64 (lN E))⟩]) ++ (wbE 104 T.length (S) ++ (fE 105 (F) ++ nE 106 (P)))))) ⟨[.s true, .s true, .s true, .s false, .s true, .s false, .s true, .s true, .s true, .s false], 130⟩) (moreP (headOf Try.f8 0) ([]) Try.f8.ntmps ([(1, vL 61 1 NM), (2, vL 62 1 NR), (8, vL 102 5 T.length), (9, vL 103 1 T.length), (10, vL 104 1 T.length), (11, vS (d)), (12, vL 105 1 (F).length), (13, vL 106 1 (P).length), (14, vN (last : Nat)), (15, vB df), (33, vL 102 5 T.length), (34, vN T.length), (35, vN (i + 1 : Nat))]) ((dE 102 T ++ [⟨103, true, none, 1, .ta T.length (.vi .i64 (lN E))⟩]) ++ (wbE 104 T.length (upd S [i] true) ++ (fE 105 (F) ++ nE 106 (P)))) 400) =
    (OkL [(decide ((0 : Int) ≤ (i : Int) ∧ (i : Int) < (↑T.length : Int)), true), ((0 + (i : Int).toNat).blt T.length, true), ((0 + (i : Int).toNat).blt T.length, true), (decide ((last : Int) ≤ lN E [0 + (i : Int).toNat]), false), ((↑(T.getD i z0).1 : Int) == 2, true), ((↑(T.getD i z0).2 : Int) == 242, false), (decide ((0 : Int) ≤ (i : Int) ∧ (i : Int) < (↑T.length : Int)), true), ((0 + (i : Int).toNat).blt T.length, true), ((0 + (i : Int).toNat).blt T.length, true), ((↑(T.getD i z0).1 : Int) == 1, false)] ∧ headOf Try.f8 0 = headOf Try.f8 0 ∧ ((0 = 0 ∧ NM = NM) ∧ (0 = 0 ∧ NR = NR) ∧ (0 = 0 ∧ T.length = T.length) ∧ (0 = 0 ∧ T.length = T.length) ∧ (0 = 0 ∧ T.length = T.length) ∧ d = d ∧ (0 = 0 ∧ F.length = F.length) ∧ (0 = 0 ∧ P.length = P.length) ∧ (last : Int) = (last : Int) ∧ df = df ∧ (0 = 0 ∧ T.length = T.length) ∧ (↑T.length : Int) = (↑T.length : Int) ∧ (↑(i + (1 : Nat)) : Int) = IntKind.i64.wrap ((i : Int) + 1)) ∧ (T.length = T.length ∧ (∀ (i : Nat), i < T.length → tK T [i] = tK T [i]) ∧ (∀ (i : Nat), i < T.length → tC T [i] = tC T [i]) ∧ (∀ (i : Nat), i < T.length → tO T [i] = tO T [i]) ∧ (∀ (i : Nat), i < T.length → tS T [i] = tS T [i]) ∧ ∀ (i : Nat), i < T.length → tU [i] = tU [i]) ∧ (T.length = T.length ∧ ∀ (i : Nat), i < T.length → lN E [i] = lN E [i]) ∧ (T.length = T.length ∧ ∀ (i_1 : Nat), i_1 < T.length → upd S [i] true [i_1] = upd S [0 + (i : Int).toNat] ((↑(T.getD i z0).1 : Int) != (1 : Int)) [i_1]) ∧ (F.length = F.length ∧ ∀ (i : Nat), i < F.length → F.getD i false = F.getD i false) ∧ P.length = P.length ∧ ∀ (i : Nat), i < P.length → lN P [i] = lN P [i]) := by kernel_rfl

set_option maxHeartbeats 4000000 in
theorem cOth (NM NR : Nat) (MK RW : Ix → Bool) (T : List Tok) (E : List Nat) (S : Ix → Bool) (d : List UInt8) (F : List Bool) (P : List Nat) (i last : Nat) (df : Bool) (t : Tok) (hi : i < T.length) (hE : E.length = T.length) (hT : T.length ≤ 1000) (hd : d.length ≤ 1000) (hF : F.length ≤ 1000) (hP : P.length ≤ 1000) (hl : last ≤ 1000) (hgt : lN E [i] < last) (ht : T.getD i z0 = t) (h : t.kind ≠ 1) (h2 : ¬ (t.kind = 2 ∧ t.code = 242))  (v : SV) (L' : HF) (next : RunsTo Try.prog 8 (headOf Try.f8 0) (envAt Try.f8.ntmps ([(1, vL 61 1 NM), (2, vL 62 1 NR), (8, vL 102 5 T.length), (9, vL 103 1 T.length), (10, vL 104 1 T.length), (11, vS (d)), (12, vL 105 1 (F).length), (13, vL 106 1 (P).length), (14, vN (last : Nat)), (15, vB df), (33, vL 102 5 T.length), (34, vN T.length), (35, vN (i + 1 : Nat))])) (Sx.look ((rbE 61 NM MK ++ rbE 62 NR RW) ++ ((dE 102 T ++ [⟨103, true, none, 1, .ta T.length (.vi .i64 (lN E))⟩]) ++ (wbE 104 T.length (upd S [i] true) ++ (fE 105 (F) ++ nE 106 (P)))))) 80 (v) (L') 400) :
    RunsTo Try.prog 8 (headOf Try.f8 1) (envAt Try.f8.ntmps ([(1, vL 61 1 NM), (2, vL 62 1 NR), (8, vL 102 5 T.length), (9, vL 103 1 T.length), (10, vL 104 1 T.length), (11, vS (d)), (12, vL 105 1 (F).length), (13, vL 106 1 (P).length), (14, vN (last : Nat)), (15, vB df), (16, vN (i : Nat)), (17, vP 111), (33, vL 102 5 T.length), (34, vN T.length), (35, vN (i : Nat))])) (Sx.look ((rbE 61 NM MK ++ rbE 62 NR RW) ++ (oE 111 (T.getD i z0) ++ ((dE 102 T ++ [⟨103, true, none, 1, .ta T.length (.vi .i64 (lN E))⟩]) ++ (wbE 104 T.length (S) ++ (fE 105 (F) ++ nE 106 (P))))))) 80 (v) (L') 400 := by
  have hw : IntKind.i64.wrap ((i : Int) + 1) = ((i + 1 : Nat) : Int) := by rw [wr64 (by omega)]; rfl
  have hw2 : IntKind.i64.wrap ((last : Int) + 1) = ((last + 1 : Nat) : Int) := by rw [wr64 (by omega)]; rfl
  have tKi : tK T [i] = (t.kind : Int) := by simp only [tK, List.headD_cons, ht]
  have hne : ((t.kind : Int) != 1) = true := by simp; omega
  refine bcase (c := ((↑(T.getD i z0).1 : Int) == (2 : Int))) (fun gg0 => (runs_more baseC (More.of (cOth_p0 NM NR MK RW T E S d F P i last df t) ⟨(okc ?_ (okc ?_ (okc ?_ (okc ?_ (okc gg0 (okc ?_ (okc ?_ (okc ?_ (okc ?_ okn))))))))), rfl, ?_⟩) (by kernel_rfl) (by kernel_rfl) rfl (gtL (by decide)) (by decide) next)) (fun gg0 => (runs_more baseC (More.of (cOth_p1 NM NR MK RW T E S d F P i last df t) ⟨(okc ?_ (okc ?_ (okc ?_ (okc ?_ (okc gg0 (okc ?_ (okc ?_ (okc ?_ (okc ?_ (okc ?_ okn)))))))))), rfl, ?_⟩) (by kernel_rfl) (by kernel_rfl) rfl (gtL (by decide)) (by decide) next))
  all_goals clear next
  all_goals first | (refine And.intro ?_ ?_ <;> ((simp (disch := omega) only [SS, hw, hw2, ht, hne, Go.Sx.sum, List.length_append, List.length_cons, List.length_nil, Nat.zero_add]); (repeat' apply And.intro); (all_goals first | exact True.intro | with_reducible rfl | omega | (simp only [tK, tC, tO, tS, tU, lN, List.headD_cons, List.headD]; done) | (simp [tK, tC, tO, tS, tU, lN]; done) | exact app_byte1 d _ _ (by simp_all) | exact fA F _ _ (by first | rfl | (simp_all; done) | (simp [subIx]; done)) | (intro k hk; simp_all [upd]; done) | (intro k hk; simp only [upd]; split <;> simp_all; done) | exact lNA P _ _ rfl | (intros; rfl) | (intros; simp_all; done) | (simp_all; done)))) | (((try simp (disch := omega) only [SS, hw, hw2, ht, hne]); first | done | omega | assumption | (simp (disch := omega) only [SS, hw, hw2, ht, hne] at *; first | done | omega | assumption) | (simp_all; done)))

theorem cDeaf_p0 (NM NR : Nat) (MK RW : Ix → Bool) (T : List Tok) (E : List Nat) (S : Ix → Bool) (d : List UInt8) (F : List Bool) (P : List Nat) (i last : Nat) (df : Bool) (t : Tok) :
    isMore (evTill Try.prog sumsC 600 (behind Try.f8 0) 900 8 (headOf Try.f8 1) (envAt Try.f8.ntmps ([(1, vL 61 1 NM), (2, vL 62 1 NR), (8, vL 102 5 T.length), (9, vL 103 1 T.length), (10, vL 104 1 T.length), (11, vS (d)), (12, vL 105 1 (F).length), (13, vL 106 1 (P).length), (14, vN (last : Nat)), (15, vB df), (16, vN (i : Nat)), (17, vP 111), (33, vL 102 5 T.length), (34, vN T.length), (35, vN (i : Nat))])) ((rbE 61 NM MK ++ rbE 62 NR RW) ++ (oE 111 (T.getD i z0) ++ ((dE 102 T ++ [⟨103, true, none, 1, .ta T.length (.vi .i64 (lN E))⟩]) ++ (wbE 104 T.length (S) ++ (fE 105 (F) ++ nE 106 (P)))))) ⟨[.s true, .s true, .s true, .s false, .s false, .s true, .s true, .s true, .s true, .s false], 130⟩) (moreP (headOf Try.f8 0) ([]) Try.f8.ntmps ([(1, vL 61 1 NM), (2, vL 62 1 NR), (8, vL 102 5 T.length), (9, vL 103 1 T.length), (10, vL 104 1 T.length), (11, vS (d)), (12, vL 105 1 (F).length), (13, vL 106 1 (P).length), (14, vN (last : Nat)), (15, vB df), (33, vL 102 5 T.length), (34, vN T.length), (35, vN (i + 1 : Nat))]) ((dE 102 T ++ [⟨103, true, none, 1, .ta T.length (.vi .i64 (lN E))⟩]) ++ (wbE 104 T.length (upd S [i] false) ++ (fE 105 (F) ++ nE 106 (P)))) 400) =
    (OkL [(decide ((0 : Int) ≤ (i : Int) ∧ (i : Int) < (↑T.length : Int)), true), ((0 + (i : Int).toNat).blt T.length, true), ((0 + (i : Int).toNat).blt T.length, true), (decide ((last : Int) ≤ lN E [0 + (i : Int).toNat]), false), ((↑(T.getD i z0).1 : Int) == 2, false), (decide ((0 : Int) ≤ (i : Int) ∧ (i : Int) < (↑T.length : Int)), true), ((0 + (i : Int).toNat).blt T.length, true), ((0 + (i : Int).toNat).blt T.length, true), ((↑(T.getD i z0).1 : Int) == 1, true), (!df, false)] ∧ headOf Try.f8 0 = headOf Try.f8 0 ∧ ((0 = 0 ∧ NM = NM) ∧ (0 = 0 ∧ NR = NR) ∧ (0 = 0 ∧ T.length = T.length) ∧ (0 = 0 ∧ T.length = T.length) ∧ (0 = 0 ∧ T.length = T.length) ∧ d = d ∧ (0 = 0 ∧ F.length = F.length) ∧ (0 = 0 ∧ P.length = P.length) ∧ (last : Int) = (last : Int) ∧ df = df ∧ (0 = 0 ∧ T.length = T.length) ∧ (↑T.length : Int) = (↑T.length : Int) ∧ (↑(i + (1 : Nat)) : Int) = IntKind.i64.wrap ((i : Int) + 1)) ∧ (T.length = T.length ∧ (∀ (i : Nat), i < T.length → tK T [i] = tK T [i]) ∧ (∀ (i : Nat), i < T.length → tC T [i] = tC T [i]) ∧ (∀ (i : Nat), i < T.length → tO T [i] = tO T [i]) ∧ (∀ (i : Nat), i < T.length → tS T [i] = tS T [i]) ∧ ∀ (i : Nat), i < T.length → tU [i] = tU [i]) ∧ (T.length = T.length ∧ ∀ (i : Nat), i < T.length → lN E [i] = lN E [i]) ∧ (T.length = T.length ∧ ∀ (i_1 : Nat), i_1 < T.length → upd S [i] false [i_1] = upd S [0 + (i : Int).toNat] ((↑(T.getD i z0).1 : Int) != (1 : Int)) [i_1]) ∧ (F.length = F.length ∧ ∀ (i : Nat), i < F.length → F.getD i false = F.getD i false) ∧ P.length = P.length ∧ ∀ (i : Nat), i < P.length → lN P [i] = lN P [i]) := by kernel_rfl

set_option maxHeartbeats 4000000 in
theorem cDeaf (NM NR : Nat) (MK RW : Ix → Bool) (T : List Tok) (E : List Nat) (S : Ix → Bool) (d : List UInt8) (F : List Bool) (P : List Nat) (i last : Nat) (df : Bool) (t : Tok) (hi : i < T.length) (hE : E.length = T.length) (hT : T.length ≤ 1000) (hd : d.length ≤ 1000) (hF : F.length ≤ 1000) (hP : P.length ≤ 1000) (hl : last ≤ 1000) (hgt : lN E [i] < last) (ht : T.getD i z0 = t) (h : t.kind = 1) (h2 : df = true)  (v : SV) (L' : HF) (next : RunsTo Try.prog 8 (headOf Try.f8 0) (envAt Try.f8.ntmps ([(1, vL 61 1 NM), (2, vL 62 1 NR), (8, vL 102 5 T.length), (9, vL 103 1 T.length), (10, vL 104 1 T.length), (11, vS (d)), (12, vL 105 1 (F).length), (13, vL 106 1 (P).length), (14, vN (last : Nat)), (15, vB df), (33, vL 102 5 T.length), (34, vN T.length), (35, vN (i + 1 : Nat))])) (Sx.look ((rbE 61 NM MK ++ rbE 62 NR RW) ++ ((dE 102 T ++ [⟨103, true, none, 1, .ta T.length (.vi .i64 (lN E))⟩]) ++ (wbE 104 T.length (upd S [i] false) ++ (fE 105 (F) ++ nE 106 (P)))))) 80 (v) (L') 400) :
    RunsTo Try.prog 8 (headOf Try.f8 1) (envAt Try.f8.ntmps ([(1, vL 61 1 NM), (2, vL 62 1 NR), (8, vL 102 5 T.length), (9, vL 103 1 T.length), (10, vL 104 1 T.length), (11, vS (d)), (12, vL 105 1 (F).length), (13, vL 106 1 (P).length), (14, vN (last : Nat)), (15, vB df), (16, vN (i : Nat)), (17, vP 111), (33, vL 102 5 T.length), (34, vN T.length), (35, vN (i : Nat))])) (Sx.look ((rbE 61 NM MK ++ rbE 62 NR RW) ++ (oE 111 (T.getD i z0) ++ ((dE 102 T ++ [⟨103, true, none, 1, .ta T.length (.vi .i64 (lN E))⟩]) ++ (wbE 104 T.length (S) ++ (fE 105 (F) ++ nE 106 (P))))))) 80 (v) (L') 400 := by
  have hw : IntKind.i64.wrap ((i : Int) + 1) = ((i + 1 : Nat) : Int) := by rw [wr64 (by omega)]; rfl
  have hw2 : IntKind.i64.wrap ((last : Int) + 1) = ((last + 1 : Nat) : Int) := by rw [wr64 (by omega)]; rfl
  have tKi : tK T [i] = (t.kind : Int) := by simp only [tK, List.headD_cons, ht]
  refine runs_more baseC (More.of (cDeaf_p0 NM NR MK RW T E S d F P i last df t) ⟨(okc ?_ (okc ?_ (okc ?_ (okc ?_ (okc ?_ (okc ?_ (okc ?_ (okc ?_ (okc ?_ (okc ?_ okn)))))))))), rfl, ?_⟩) (by kernel_rfl) (by kernel_rfl) rfl (gtL (by decide)) (by decide) next
  all_goals clear next
  all_goals first | (refine And.intro ?_ ?_ <;> ((simp (disch := omega) only [SS, hw, hw2, ht, h, h2, Go.Sx.sum, List.length_append, List.length_cons, List.length_nil, Nat.zero_add]); (repeat' apply And.intro); (all_goals first | exact True.intro | with_reducible rfl | omega | (simp only [tK, tC, tO, tS, tU, lN, List.headD_cons, List.headD]; done) | (simp [tK, tC, tO, tS, tU, lN]; done) | exact app_byte1 d _ _ (by simp_all) | exact fA F _ _ (by first | rfl | (simp_all; done) | (simp [subIx]; done)) | (intro k hk; simp_all [upd]; done) | (intro k hk; simp only [upd]; split <;> simp_all; done) | exact lNA P _ _ rfl | (intros; rfl) | (intros; simp_all; done) | (simp_all; done)))) | (((try simp (disch := omega) only [SS, hw, hw2, ht, h, h2]); first | done | omega | assumption | (simp (disch := omega) only [SS, hw, hw2, ht, h, h2] at *; first | done | omega | assumption) | (simp_all; done)))

theorem cHear_p0 (NM NR : Nat) (MK RW : Ix → Bool) (T : List Tok) (E : List Nat) (S : Ix → Bool) (d : List UInt8) (F : List Bool) (P : List Nat) (i last : Nat) (df : Bool) (t : Tok) (e : Nat) :
    isMore (evTill Try.prog sumsC 600 (behind Try.f8 0) 900 8 (headOf Try.f8 1) (envAt Try.f8.ntmps ([(1, vL 61 1 NM), (2, vL 62 1 NR), (8, vL 102 5 T.length), (9, vL 103 1 T.length), (10, vL 104 1 T.length), (11, vS (d)), (12, vL 105 1 (F).length), (13, vL 106 1 (P).length), (14, vN (last : Nat)), (15, vB df), (16, vN (i : Nat)), (17, vP 111), (33, vL 102 5 T.length), (34, vN T.length), (35, vN (i : Nat))])) ((rbE 61 NM MK ++ rbE 62 NR RW) ++ (oE 111 (T.getD i z0) ++ ((dE 102 T ++ [⟨103, true, none, 1, .ta T.length (.vi .i64 (lN E))⟩]) ++ (wbE 104 T.length (S) ++ (fE 105 (F) ++ nE 106 (P)))))) ⟨[.s true, .s true, .s true, .s false, .s false, .s true, .s true, .s true, .s true, .s true, .t, .s true, .s true, .s true, .s true, .s true, .s true, .s true, .t, .s true, .s true, .t, .s true, .s true], 130⟩) (moreP (headOf Try.f8 0) ([(105, Rn.to 132), (106, Rn.to 134)]) Try.f8.ntmps ([(1, vL 61 1 NM), (2, vL 62 1 NR), (8, vL 102 5 T.length), (9, vL 103 1 T.length), (10, vL 104 1 T.length), (11, vS (d ++ [UInt8.ofNat t.code])), (12, vL 105 1 (F ++ [RW [e]]).length), (13, vL 106 1 (P ++ [i]).length), (14, vN (last : Nat)), (15, vB df), (33, vL 102 5 T.length), (34, vN T.length), (35, vN (i + 1 : Nat))]) ((dE 102 T ++ [⟨103, true, none, 1, .ta T.length (.vi .i64 (lN E))⟩]) ++ (wbE 104 T.length (upd S [i] false) ++ (fE 105 (F ++ [RW [e]]) ++ nE 106 (P ++ [i])))) 400) =
    (OkL [(decide ((0 : Int) ≤ (i : Int) ∧ (i : Int) < (↑T.length : Int)), true), ((0 + (i : Int).toNat).blt T.length, true), ((0 + (i : Int).toNat).blt T.length, true), (decide ((last : Int) ≤ lN E [0 + (i : Int).toNat]), false), ((↑(T.getD i z0).1 : Int) == 2, false), (decide ((0 : Int) ≤ (i : Int) ∧ (i : Int) < (↑T.length : Int)), true), ((0 + (i : Int).toNat).blt T.length, true), ((0 + (i : Int).toNat).blt T.length, true), ((↑(T.getD i z0).1 : Int) == 1, true), (!df, true), (decide (d.length + (bytesOf (fun is => IntKind.u8.wrap (↑(T.getD i z0).2 : Int)) [] (0 : Nat) (1 : Nat)).length ≤ (9223372036854775807 : Nat)), true), (decide ((0 : Int) ≤ (i : Int) ∧ (i : Int) < (↑T.length : Int)), true), ((0 + (i : Int).toNat).blt T.length, true), ((0 + (i : Int).toNat).blt T.length, true), (decide ((0 : Int) ≤ lN E [0 + (i : Int).toNat] ∧ lN E [0 + (i : Int).toNat] < (NR : Int)), true), ((0 + (lN E [0 + (i : Int).toNat]).toNat).blt NR, true), ((0 + (lN E [0 + (i : Int).toNat]).toNat).blt NR, true), ((0 + F.length).ble F.length, true), (decide (((2 : Nat) * (F.length + (1 : Nat)) + (192 : Nat)) * (1 : Nat) ≤ (281474976710656 : Nat)), true), ((0 + P.length).ble P.length, true), (decide (((2 : Nat) * (P.length + (1 : Nat)) + (192 : Nat)) * (8 : Nat) ≤ (281474976710656 : Nat)), true)] ∧ headOf Try.f8 0 = headOf Try.f8 0 ∧ ((0 = 0 ∧ NM = NM) ∧ (0 = 0 ∧ NR = NR) ∧ (0 = 0 ∧ T.length = T.length) ∧ (0 = 0 ∧ T.length = T.length) ∧ (0 = 0 ∧ T.length = T.length) ∧ d ++ [UInt8.ofNat t.2] = d ++ bytesOf (fun is => IntKind.u8.wrap (↑(T.getD i z0).2 : Int)) [] (0 : Nat) (1 : Nat) ∧ (0 = 0 ∧ (F ++ [RW [e]]).length = F.length + (1 : Nat)) ∧ (0 = 0 ∧ (P ++ [i]).length = P.length + (1 : Nat)) ∧ (last : Int) = (last : Int) ∧ df = df ∧ (0 = 0 ∧ T.length = T.length) ∧ (↑T.length : Int) = (↑T.length : Int) ∧ (↑(i + (1 : Nat)) : Int) = IntKind.i64.wrap ((i : Int) + 1)) ∧ (T.length = T.length ∧ (∀ (i : Nat), i < T.length → tK T [i] = tK T [i]) ∧ (∀ (i : Nat), i < T.length → tC T [i] = tC T [i]) ∧ (∀ (i : Nat), i < T.length → tO T [i] = tO T [i]) ∧ (∀ (i : Nat), i < T.length → tS T [i] = tS T [i]) ∧ ∀ (i : Nat), i < T.length → tU [i] = tU [i]) ∧ (T.length = T.length ∧ ∀ (i : Nat), i < T.length → lN E [i] = lN E [i]) ∧ (T.length = T.length ∧ ∀ (i_1 : Nat), i_1 < T.length → upd S [i] false [i_1] = upd S [0 + (i : Int).toNat] ((↑(T.getD i z0).1 : Int) != (1 : Int)) [i_1]) ∧ ((F ++ [RW [e]]).length = F.length + (1 : Nat) ∧ ∀ (i_1 : Nat), i_1 < (F ++ [RW [e]]).length → (F ++ [RW [e]]).getD i_1 false = appF F.length (0 : Nat) (fun is => F.getD (List.headD is (0 : Nat)) false) (fun js => RW ((0 + (lN E [0 + (i : Int).toNat]).toNat) :: List.tail (subIx (0 : Nat) js))) [i_1]) ∧ (P ++ [i]).length = P.length + (1 : Nat) ∧ ∀ (i_1 : Nat), i_1 < (P ++ [i]).length → lN (P ++ [i]) [i_1] = appF P.length (0 : Nat) (lN P) (fun js => (i : Int)) [i_1]) := by kernel_rfl

set_option maxHeartbeats 4000000 in
theorem cHear (NM NR : Nat) (MK RW : Ix → Bool) (T : List Tok) (E : List Nat) (S : Ix → Bool) (d : List UInt8) (F : List Bool) (P : List Nat) (i last : Nat) (df : Bool) (t : Tok) (e : Nat) (hi : i < T.length) (hE : E.length = T.length) (hT : T.length ≤ 1000) (hd : d.length ≤ 1000) (hF : F.length ≤ 1000) (hP : P.length ≤ 1000) (hl : last ≤ 1000) (hgt : lN E [i] < last) (ht : T.getD i z0 = t) (he : lN E [i] = (e : Int)) (hR : e < NR) (hc : t.code < 256) (h : t.kind = 1) (h2 : df = false)  (v : SV) (L' : HF) (next : RunsTo Try.prog 8 (headOf Try.f8 0) (envAt Try.f8.ntmps ([(1, vL 61 1 NM), (2, vL 62 1 NR), (8, vL 102 5 T.length), (9, vL 103 1 T.length), (10, vL 104 1 T.length), (11, vS (d ++ [UInt8.ofNat t.code])), (12, vL 105 1 (F ++ [RW [e]]).length), (13, vL 106 1 (P ++ [i]).length), (14, vN (last : Nat)), (15, vB df), (33, vL 102 5 T.length), (34, vN T.length), (35, vN (i + 1 : Nat))])) (Sx.look ((rbE 61 NM MK ++ rbE 62 NR RW) ++ ((dE 102 T ++ [⟨103, true, none, 1, .ta T.length (.vi .i64 (lN E))⟩]) ++ (wbE 104 T.length (upd S [i] false) ++ (fE 105 (F ++ [RW [e]]) ++ nE 106 (P ++ [i])))))) 80 (v) (L') 400) :
    RunsTo Try.prog 8 (headOf Try.f8 1) (envAt Try.f8.ntmps ([(1, vL 61 1 NM), (2, vL 62 1 NR), (8, vL 102 5 T.length), (9, vL 103 1 T.length), (10, vL 104 1 T.length), (11, vS (d)), (12, vL 105 1 (F).length), (13, vL 106 1 (P).length), (14, vN (last : Nat)), (15, vB df), (16, vN (i : Nat)), (17, vP 111), (33, vL 102 5 T.length), (34, vN T.length), (35, vN (i : Nat))])) (Sx.look ((rbE 61 NM MK ++ rbE 62 NR RW) ++ (oE 111 (T.getD i z0) ++ ((dE 102 T ++ [⟨103, true, none, 1, .ta T.length (.vi .i64 (lN E))⟩]) ++ (wbE 104 T.length (S) ++ (fE 105 (F) ++ nE 106 (P))))))) 80 (v) (L') 400 := by
  have hw : IntKind.i64.wrap ((i : Int) + 1) = ((i + 1 : Nat) : Int) := by rw [wr64 (by omega)]; rfl
  have hw2 : IntKind.i64.wrap ((last : Int) + 1) = ((last + 1 : Nat) : Int) := by rw [wr64 (by omega)]; rfl
  have tKi : tK T [i] = (t.kind : Int) := by simp only [tK, List.headD_cons, ht]
  have hu : IntKind.u8.wrap (t.code : Int) = ((UInt8.ofNat t.code).toNat : Int) := u8w hc
  have hm256 : (t.code : Int) % 256 = (t.code : Int) := by omega
  have hby : bytesOf (fun _ => (t.code : Int) % 256) [] 0 1 = [UInt8.ofNat t.code] := by rw [hm256]; simp [bytesOf]
  refine runs_more baseC (More.of (cHear_p0 NM NR MK RW T E S d F P i last df t e) ⟨(okc ?_ (okc ?_ (okc ?_ (okc ?_ (okc ?_ (okc ?_ (okc ?_ (okc ?_ (okc ?_ (okc ?_ (okc ?_ (okc ?_ (okc ?_ (okc ?_ (okc ?_ (okc ?_ (okc ?_ (okc ?_ (okc ?_ (okc ?_ (okc ?_ okn))))))))))))))))))))), rfl, ?_⟩) (by kernel_rfl) (by kernel_rfl) rfl (gtL (by decide)) (by decide) next
  all_goals clear next
  all_goals first | (refine And.intro ?_ ?_ <;> ((simp (disch := omega) only [SS, hw, hw2, ht, h, h2, he, hu, hby, bytesOf_len, Go.Sx.sum, List.length_append, List.length_cons, List.length_nil, Nat.zero_add]); (repeat' apply And.intro); (all_goals first | exact True.intro | with_reducible rfl | omega | (simp only [tK, tC, tO, tS, tU, lN, List.headD_cons, List.headD]; done) | (simp [tK, tC, tO, tS, tU, lN]; done) | exact app_byte1 d _ _ (by simp_all) | exact fA F _ _ (by first | rfl | (simp_all; done) | (simp [subIx]; done)) | (intro k hk; simp_all [upd]; done) | (intro k hk; simp only [upd]; split <;> simp_all; done) | exact lNA P _ _ rfl | (intros; rfl) | (intros; simp_all; done) | (simp_all; done)))) | (((try simp (disch := omega) only [SS, hw, hw2, ht, h, h2, he, hu, hby, bytesOf_len]); first | done | omega | assumption | (simp (disch := omega) only [SS, hw, hw2, ht, h, h2, he, hu, hby, bytesOf_len] at *; first | done | omega | assumption) | (simp_all; done)))

theorem c2_p0 (NM NR : Nat) (MK RW : Ix → Bool) (T : List Tok) (E : List Nat) (S : Ix → Bool) (d : List UInt8) (F : List Bool) (P : List Nat) (i last : Nat) (df : Bool) :
    isMore (evTill Try.prog sumsC 600 (behind Try.f8 2) 900 8 (headOf Try.f8 0) (envAt Try.f8.ntmps ([(1, vL 61 1 NM), (2, vL 62 1 NR), (8, vL 102 5 T.length), (9, vL 103 1 T.length), (10, vL 104 1 T.length), (11, vS (d)), (12, vL 105 1 (F).length), (13, vL 106 1 (P).length), (14, vN (last : Nat)), (15, vB df), (33, vL 102 5 T.length), (34, vN T.length), (35, vN (i : Nat))])) ((rbE 61 NM MK ++ rbE 62 NR RW) ++ ((dE 102 T ++ [⟨103, true, none, 1, .ta T.length (.vi .i64 (lN E))⟩]) ++ (wbE 104 T.length (S) ++ (fE 105 (F) ++ nE 106 (P))))) ⟨[.s false], 130⟩) (moreP (headOf Try.f8 2) ([]) Try.f8.ntmps ([(8, vL 102 5 T.length), (9, vL 103 1 T.length), (10, vL 104 1 T.length), (11, vS d), (12, vL 105 1 F.length), (13, vL 106 1 P.length), (99, vN P.length), (100, vN (0 : Nat))]) ((dE 102 T ++ [⟨103, true, none, 1, .ta T.length (.vi .i64 (lN E))⟩]) ++ (wbE 104 T.length (S) ++ (fE 105 (F) ++ nE 106 (P)))) 400) =
    (OkL [(decide ((i : Int) < (↑T.length : Int)), false)] ∧ headOf Try.f8 2 = headOf Try.f8 2 ∧ ((0 = 0 ∧ T.length = T.length) ∧ (0 = 0 ∧ T.length = T.length) ∧ (0 = 0 ∧ T.length = T.length) ∧ d = d ∧ (0 = 0 ∧ F.length = F.length) ∧ (0 = 0 ∧ P.length = P.length) ∧ (↑P.length : Int) = (↑P.length : Int) ∧ (↑(0 : Nat) : Int) = (0 : Int)) ∧ (T.length = T.length ∧ (∀ (i : Nat), i < T.length → tK T [i] = tK T [i]) ∧ (∀ (i : Nat), i < T.length → tC T [i] = tC T [i]) ∧ (∀ (i : Nat), i < T.length → tO T [i] = tO T [i]) ∧ (∀ (i : Nat), i < T.length → tS T [i] = tS T [i]) ∧ ∀ (i : Nat), i < T.length → tU [i] = tU [i]) ∧ (T.length = T.length ∧ ∀ (i : Nat), i < T.length → lN E [i] = lN E [i]) ∧ (T.length = T.length ∧ ∀ (i : Nat), i < T.length → S [i] = S [i]) ∧ (F.length = F.length ∧ ∀ (i : Nat), i < F.length → F.getD i false = F.getD i false) ∧ P.length = P.length ∧ ∀ (i : Nat), i < P.length → lN P [i] = lN P [i]) := by kernel_rfl

set_option maxHeartbeats 4000000 in
theorem c2 (NM NR : Nat) (MK RW : Ix → Bool) (T : List Tok) (E : List Nat) (S : Ix → Bool) (d : List UInt8) (F : List Bool) (P : List Nat) (i last : Nat) (df : Bool) (hi : i = T.length) (hT : T.length ≤ 1000) (hP : P.length ≤ 1000)  (v : SV) (L' : HF) (next : RunsTo Try.prog 8 (headOf Try.f8 2) (envAt Try.f8.ntmps ([(8, vL 102 5 T.length), (9, vL 103 1 T.length), (10, vL 104 1 T.length), (11, vS d), (12, vL 105 1 F.length), (13, vL 106 1 P.length), (99, vN P.length), (100, vN (0 : Nat))])) (Sx.look ((rbE 61 NM MK ++ rbE 62 NR RW) ++ ((dE 102 T ++ [⟨103, true, none, 1, .ta T.length (.vi .i64 (lN E))⟩]) ++ (wbE 104 T.length (S) ++ (fE 105 (F) ++ nE 106 (P)))))) 80 (v) (L') 400) :
    RunsTo Try.prog 8 (headOf Try.f8 0) (envAt Try.f8.ntmps ([(1, vL 61 1 NM), (2, vL 62 1 NR), (8, vL 102 5 T.length), (9, vL 103 1 T.length), (10, vL 104 1 T.length), (11, vS (d)), (12, vL 105 1 (F).length), (13, vL 106 1 (P).length), (14, vN (last : Nat)), (15, vB df), (33, vL 102 5 T.length), (34, vN T.length), (35, vN (i : Nat))])) (Sx.look ((rbE 61 NM MK ++ rbE 62 NR RW) ++ ((dE 102 T ++ [⟨103, true, none, 1, .ta T.length (.vi .i64 (lN E))⟩]) ++ (wbE 104 T.length (S) ++ (fE 105 (F) ++ nE 106 (P)))))) 80 (v) (L') 400 := by
  refine runs_more baseC (More.of (c2_p0 NM NR MK RW T E S d F P i last df) ⟨(okc ?_ okn), rfl, ?_⟩) (by kernel_rfl) (by kernel_rfl) rfl (gtL (by decide)) (by decide) next
  all_goals clear next
  all_goals first | (refine And.intro ?_ ?_ <;> ((try simp (disch := omega) only [SS]); (repeat' apply And.intro); (all_goals first | exact True.intro | with_reducible rfl | omega | (intros; first | exact True.intro | with_reducible rfl | omega | (simp_all; done)) | (simp_all; done) | rfl))) | (((try simp (disch := omega) only [SS]); first | done | omega | assumption | (simp (disch := omega) only [SS] at *; first | done | omega | assumption) | (simp_all; done)))

theorem c2s_p0 (NM NR : Nat) (MK RW : Ix → Bool) (T : List Tok) (E : List Nat) (S : Ix → Bool) (d : List UInt8) (F : List Bool) (P : List Nat) (j p : Nat) :
    isMore (evTill Try.prog sumsC 600 (behind Try.f8 2) 900 8 (headOf Try.f8 2) (envAt Try.f8.ntmps ([(8, vL 102 5 T.length), (9, vL 103 1 T.length), (10, vL 104 1 T.length), (11, vS d), (12, vL 105 1 F.length), (13, vL 106 1 P.length), (99, vN P.length), (100, vN (j : Nat))])) ((rbE 61 NM MK ++ rbE 62 NR RW) ++ ((dE 102 T ++ [⟨103, true, none, 1, .ta T.length (.vi .i64 (lN E))⟩]) ++ (wbE 104 T.length (S) ++ (fE 105 (F) ++ nE 106 (P))))) ⟨[.s true, .s true, .s true, .s true, .s true, .s true, .s true, .s true, .s true], 130⟩) (moreP (headOf Try.f8 2) ([]) Try.f8.ntmps ([(8, vL 102 5 T.length), (9, vL 103 1 T.length), (10, vL 104 1 T.length), (11, vS d), (12, vL 105 1 F.length), (13, vL 106 1 P.length), (99, vN P.length), (100, vN (j + 1 : Nat))]) ((dE 102 T ++ [⟨103, true, none, 1, .ta T.length (.vi .i64 (lN E))⟩]) ++ (wbE 104 T.length (upd S [p] (!gnB d (fun is => F.getD (is.headD 0) false) j)) ++ (fE 105 (F) ++ nE 106 (P)))) 400) =
    (OkL [(decide ((j : Int) < (↑P.length : Int)), true), (decide ((0 : Int) ≤ (j : Int) ∧ (j : Int) < (↑P.length : Int)), true), ((0 + (j : Int).toNat).blt P.length, true), ((0 + (j : Int).toNat).blt P.length, true), (F.length.beq F.length, true), (decide ((0 : Int) ≤ (j : Int)) && decide ((j : Int).toNat < d.length ∧ d.length ≤ F.length ∧ d.length ≤ (1000 : Nat)), true), (decide ((0 : Int) ≤ lN P [0 + (j : Int).toNat] ∧ lN P [0 + (j : Int).toNat] < (↑T.length : Int)), true), ((0 + (lN P [0 + (j : Int).toNat]).toNat).blt T.length, true), ((0 + (lN P [0 + (j : Int).toNat]).toNat).blt T.length, true)] ∧ headOf Try.f8 2 = headOf Try.f8 2 ∧ ((0 = 0 ∧ T.length = T.length) ∧ (0 = 0 ∧ T.length = T.length) ∧ (0 = 0 ∧ T.length = T.length) ∧ d = d ∧ (0 = 0 ∧ F.length = F.length) ∧ (0 = 0 ∧ P.length = P.length) ∧ (↑P.length : Int) = (↑P.length : Int) ∧ (↑(j + (1 : Nat)) : Int) = IntKind.i64.wrap ((j : Int) + 1)) ∧ (T.length = T.length ∧ (∀ (i : Nat), i < T.length → tK T [i] = tK T [i]) ∧ (∀ (i : Nat), i < T.length → tC T [i] = tC T [i]) ∧ (∀ (i : Nat), i < T.length → tO T [i] = tO T [i]) ∧ (∀ (i : Nat), i < T.length → tS T [i] = tS T [i]) ∧ ∀ (i : Nat), i < T.length → tU [i] = tU [i]) ∧ (T.length = T.length ∧ ∀ (i : Nat), i < T.length → lN E [i] = lN E [i]) ∧ (T.length = T.length ∧ ∀ (i : Nat), i < T.length → upd S [p] (!gnB d (fun is => F.getD (List.headD is (0 : Nat)) false) j) [i] = upd S [0 + (lN P [0 + (j : Int).toNat]).toNat] (!gnB d (fun is => F.getD (List.headD is (0 : Nat)) false) (j : Int).toNat) [i]) ∧ (F.length = F.length ∧ ∀ (i : Nat), i < F.length → F.getD i false = F.getD i false) ∧ P.length = P.length ∧ ∀ (i : Nat), i < P.length → lN P [i] = lN P [i]) := by kernel_rfl

set_option maxHeartbeats 4000000 in
theorem c2s (NM NR : Nat) (MK RW : Ix → Bool) (T : List Tok) (E : List Nat) (S : Ix → Bool) (d : List UInt8) (F : List Bool) (P : List Nat) (j p : Nat) (hj : j < P.length) (hP : P.length ≤ 1000) (hp2 : lN P [j] = (p : Int)) (hp3 : p < T.length) (hdl : d.length = P.length) (hF : F.length = P.length)  (v : SV) (L' : HF) (next : RunsTo Try.prog 8 (headOf Try.f8 2) (envAt Try.f8.ntmps ([(8, vL 102 5 T.length), (9, vL 103 1 T.length), (10, vL 104 1 T.length), (11, vS d), (12, vL 105 1 F.length), (13, vL 106 1 P.length), (99, vN P.length), (100, vN (j + 1 : Nat))])) (Sx.look ((rbE 61 NM MK ++ rbE 62 NR RW) ++ ((dE 102 T ++ [⟨103, true, none, 1, .ta T.length (.vi .i64 (lN E))⟩]) ++ (wbE 104 T.length (upd S [p] (!gnB d (fun is => F.getD (is.headD 0) false) j)) ++ (fE 105 (F) ++ nE 106 (P)))))) 80 (v) (L') 400) :
    RunsTo Try.prog 8 (headOf Try.f8 2) (envAt Try.f8.ntmps ([(8, vL 102 5 T.length), (9, vL 103 1 T.length), (10, vL 104 1 T.length), (11, vS d), (12, vL 105 1 F.length), (13, vL 106 1 P.length), (99, vN P.length), (100, vN (j : Nat))])) (Sx.look ((rbE 61 NM MK ++ rbE 62 NR RW) ++ ((dE 102 T ++ [⟨103, true, none, 1, .ta T.length (.vi .i64 (lN E))⟩]) ++ (wbE 104 T.length (S) ++ (fE 105 (F) ++ nE 106 (P)))))) 80 (v) (L') 400 := by
  have hw : IntKind.i64.wrap ((j : Int) + 1) = ((j + 1 : Nat) : Int) := by rw [wr64 (by omega)]; rfl
  refine runs_more baseC (More.of (c2s_p0 NM NR MK RW T E S d F P j p) ⟨(okc ?_ (okc ?_ (okc ?_ (okc ?_ (okc ?_ (okc ?_ (okc ?_ (okc ?_ (okc ?_ okn))))))))), rfl, ?_⟩) (by kernel_rfl) (by kernel_rfl) rfl (gtL (by decide)) (by decide) next
  all_goals clear next
  all_goals first | (refine And.intro ?_ ?_ <;> ((simp (disch := omega) only [SS, hw, hp2, Int.toNat_natCast, Go.Sx.sum, List.length_append, List.length_cons, List.length_nil, Nat.zero_add]); (repeat' apply And.intro); (all_goals first | exact True.intro | with_reducible rfl | omega | (simp only [tK, tC, tO, tS, tU, lN, List.headD_cons, List.headD]; done) | (simp [tK, tC, tO, tS, tU, lN]; done) | exact app_byte1 d _ _ (by simp_all) | exact fA F _ _ (by first | rfl | (simp_all; done) | (simp [subIx]; done)) | (intro k hk; simp_all [upd]; done) | (intro k hk; simp only [upd]; split <;> simp_all; done) | exact lNA P _ _ rfl | (intros; rfl) | (intros; simp_all; done) | (simp_all; done)))) | (((try simp (disch := omega) only [SS, hw, hp2, Int.toNat_natCast]); first | done | omega | assumption | (simp (disch := omega) only [SS, hw, hp2, Int.toNat_natCast] at *; first | done | omega | assumption) | (simp_all; done)))

theorem c3_p0 (NM NR : Nat) (MK RW : Ix → Bool) (T : List Tok) (E : List Nat) (S : Ix → Bool) (d : List UInt8) (F : List Bool) (P : List Nat) (j p : Nat) :
    isMore (evTill Try.prog sumsC 600 (behind Try.f8 3) 900 8 (headOf Try.f8 2) (envAt Try.f8.ntmps ([(8, vL 102 5 T.length), (9, vL 103 1 T.length), (10, vL 104 1 T.length), (11, vS d), (12, vL 105 1 F.length), (13, vL 106 1 P.length), (99, vN P.length), (100, vN (j : Nat))])) ((rbE 61 NM MK ++ rbE 62 NR RW) ++ ((dE 102 T ++ [⟨103, true, none, 1, .ta T.length (.vi .i64 (lN E))⟩]) ++ (wbE 104 T.length (S) ++ (fE 105 (F) ++ nE 106 (P))))) ⟨[.s false], 130⟩) (moreP (headOf Try.f8 3) ([(107, Rn.to 130), (108, Rn.to 131)]) Try.f8.ntmps ([(9, vL 103 1 T.length), (10, vL 104 1 T.length), (19, vL 107 5 (([] : List Tok)).length), (20, vL 108 1 (([] : List Nat)).length), (117, vL 102 5 T.length), (118, vN T.length), (119, vN (0 : Nat))]) ((dE 102 T ++ [⟨103, true, none, 1, .ta T.length (.vi .i64 (lN E))⟩]) ++ (wbE 104 T.length S ++ (dE 107 (([] : List Tok)) ++ nE 108 (([] : List Nat))))) 400) =
    (OkL [(decide ((j : Int) < (↑P.length : Int)), false)] ∧ headOf Try.f8 3 = headOf Try.f8 3 ∧ ((0 = 0 ∧ T.length = T.length) ∧ (0 = 0 ∧ T.length = T.length) ∧ (0 = 0 ∧ 0 = 0) ∧ (0 = 0 ∧ 0 = 0) ∧ (0 = 0 ∧ T.length = T.length) ∧ (↑T.length : Int) = (↑T.length : Int) ∧ (↑(0 : Nat) : Int) = (0 : Int)) ∧ (T.length = T.length ∧ (∀ (i : Nat), i < T.length → tK T [i] = tK T [i]) ∧ (∀ (i : Nat), i < T.length → tC T [i] = tC T [i]) ∧ (∀ (i : Nat), i < T.length → tO T [i] = tO T [i]) ∧ (∀ (i : Nat), i < T.length → tS T [i] = tS T [i]) ∧ ∀ (i : Nat), i < T.length → tU [i] = tU [i]) ∧ (T.length = T.length ∧ ∀ (i : Nat), i < T.length → lN E [i] = lN E [i]) ∧ (T.length = T.length ∧ ∀ (i : Nat), i < T.length → S [i] = S [i]) ∧ (0 = 0 ∧ (∀ (i : Nat), i < (0 : Nat) → tK [] [i] = (0 : Int)) ∧ (∀ (i : Nat), i < (0 : Nat) → tC [] [i] = (0 : Int)) ∧ (∀ (i : Nat), i < (0 : Nat) → tO [] [i] = (0 : Int)) ∧ (∀ (i : Nat), i < (0 : Nat) → tS [] [i] = []) ∧ ∀ (i : Nat), i < (0 : Nat) → tU [i] = false) ∧ 0 = 0 ∧ ∀ (i : Nat), i < (0 : Nat) → lN [] [i] = (0 : Int)) := by kernel_rfl

set_option maxHeartbeats 4000000 in
theorem c3 (NM NR : Nat) (MK RW : Ix → Bool) (T : List Tok) (E : List Nat) (S : Ix → Bool) (d : List UInt8) (F : List Bool) (P : List Nat) (j p : Nat) (hj : j = P.length) (hP : P.length ≤ 1000) (hT : T.length ≤ 1000)  (v : SV) (L' : HF) (next : RunsTo Try.prog 8 (headOf Try.f8 3) (envAt Try.f8.ntmps ([(9, vL 103 1 T.length), (10, vL 104 1 T.length), (19, vL 107 5 (([] : List Tok)).length), (20, vL 108 1 (([] : List Nat)).length), (117, vL 102 5 T.length), (118, vN T.length), (119, vN (0 : Nat))])) (Sx.look ((rbE 61 NM MK ++ rbE 62 NR RW) ++ ((dE 102 T ++ [⟨103, true, none, 1, .ta T.length (.vi .i64 (lN E))⟩]) ++ (wbE 104 T.length S ++ (dE 107 (([] : List Tok)) ++ nE 108 (([] : List Nat))))))) 80 (v) (L') 400) :
    RunsTo Try.prog 8 (headOf Try.f8 2) (envAt Try.f8.ntmps ([(8, vL 102 5 T.length), (9, vL 103 1 T.length), (10, vL 104 1 T.length), (11, vS d), (12, vL 105 1 F.length), (13, vL 106 1 P.length), (99, vN P.length), (100, vN (j : Nat))])) (Sx.look ((rbE 61 NM MK ++ rbE 62 NR RW) ++ ((dE 102 T ++ [⟨103, true, none, 1, .ta T.length (.vi .i64 (lN E))⟩]) ++ (wbE 104 T.length (S) ++ (fE 105 (F) ++ nE 106 (P)))))) 80 (v) (L') 400 := by
  refine runs_more baseC (More.of (c3_p0 NM NR MK RW T E S d F P j p) ⟨(okc ?_ okn), rfl, ?_⟩) (by kernel_rfl) (by kernel_rfl) rfl (gtL (by decide)) (by decide) next
  all_goals clear next
  all_goals first | (refine And.intro ?_ ?_ <;> ((try simp (disch := omega) only [SS]); (repeat' apply And.intro); (all_goals first | exact True.intro | with_reducible rfl | omega | (intros; first | exact True.intro | with_reducible rfl | omega | (simp_all; done)) | (simp_all; done) | rfl))) | (((try simp (disch := omega) only [SS]); first | done | omega | assumption | (simp (disch := omega) only [SS] at *; first | done | omega | assumption) | (simp_all; done)))

theorem c3y_p0 (NM NR : Nat) (MK RW : Ix → Bool) (T : List Tok) (E : List Nat) (S : Ix → Bool) (OT : List Tok) (OE : List Nat) (k : Nat) (e : Nat) :
    isMore (evTill Try.prog sumsC 600 (behind Try.f8 3) 900 8 (headOf Try.f8 3) (envAt Try.f8.ntmps ([(9, vL 103 1 T.length), (10, vL 104 1 T.length), (19, vL 107 5 (OT).length), (20, vL 108 1 (OE).length), (117, vL 102 5 T.length), (118, vN T.length), (119, vN (k : Nat))])) ((rbE 61 NM MK ++ rbE 62 NR RW) ++ ((dE 102 T ++ [⟨103, true, none, 1, .ta T.length (.vi .i64 (lN E))⟩]) ++ (wbE 104 T.length S ++ (dE 107 (OT) ++ nE 108 (OE))))) ⟨[.s true, .s true, .s true, .s true, .s true, .s true, .s true, .s true, .t, .s true, .s true, .s true, .s true, .s true, .t, .s true, .s true], 130⟩) (moreP (headOf Try.f8 3) ([(107, Rn.to 132), (108, Rn.to 134)]) Try.f8.ntmps ([(9, vL 103 1 T.length), (10, vL 104 1 T.length), (19, vL 107 5 (OT ++ [T.getD k z0]).length), (20, vL 108 1 (OE ++ [e]).length), (117, vL 102 5 T.length), (118, vN T.length), (119, vN (k + 1 : Nat))]) ((dE 102 T ++ [⟨103, true, none, 1, .ta T.length (.vi .i64 (lN E))⟩]) ++ (wbE 104 T.length S ++ (dE 107 (OT ++ [T.getD k z0]) ++ nE 108 (OE ++ [e])))) 400) =
    (OkL [(decide ((k : Int) < (↑T.length : Int)), true), (decide ((0 : Int) ≤ (k : Int) ∧ (k : Int) < (↑T.length : Int)), true), ((0 + (k : Int).toNat).blt T.length, true), ((0 + (k : Int).toNat).blt T.length, true), (decide ((0 : Int) ≤ (k : Int) ∧ (k : Int) < (↑T.length : Int)), true), ((0 + (k : Int).toNat).blt T.length, true), ((0 + (k : Int).toNat).blt T.length, true), (S [0 + (k : Int).toNat], true), ((0 + OT.length).ble OT.length, true), (decide (((2 : Nat) * (OT.length + (1 : Nat)) + (192 : Nat)) * (48 : Nat) ≤ (281474976710656 : Nat)), true), (decide ((0 : Int) ≤ (k : Int) ∧ (k : Int) < (↑T.length : Int)), true), ((0 + (k : Int).toNat).blt T.length, true), ((0 + (k : Int).toNat).blt T.length, true), ((0 + OE.length).ble OE.length, true), (decide (((2 : Nat) * (OE.length + (1 : Nat)) + (192 : Nat)) * (8 : Nat) ≤ (281474976710656 : Nat)), true)] ∧ headOf Try.f8 3 = headOf Try.f8 3 ∧ ((0 = 0 ∧ T.length = T.length) ∧ (0 = 0 ∧ T.length = T.length) ∧ (0 = 0 ∧ (OT ++ [T.getD k z0]).length = OT.length + (1 : Nat)) ∧ (0 = 0 ∧ (OE ++ [e]).length = OE.length + (1 : Nat)) ∧ (0 = 0 ∧ T.length = T.length) ∧ (↑T.length : Int) = (↑T.length : Int) ∧ (↑(k + (1 : Nat)) : Int) = IntKind.i64.wrap ((k : Int) + 1)) ∧ (T.length = T.length ∧ (∀ (i : Nat), i < T.length → tK T [i] = tK T [i]) ∧ (∀ (i : Nat), i < T.length → tC T [i] = tC T [i]) ∧ (∀ (i : Nat), i < T.length → tO T [i] = tO T [i]) ∧ (∀ (i : Nat), i < T.length → tS T [i] = tS T [i]) ∧ ∀ (i : Nat), i < T.length → tU [i] = tU [i]) ∧ (T.length = T.length ∧ ∀ (i : Nat), i < T.length → lN E [i] = lN E [i]) ∧ (T.length = T.length ∧ ∀ (i : Nat), i < T.length → S [i] = S [i]) ∧ ((OT ++ [T.getD k z0]).length = OT.length + (1 : Nat) ∧ (∀ (i : Nat), i < (OT ++ [T.getD k z0]).length → tK (OT ++ [T.getD k z0]) [i] = appF OT.length (0 : Nat) (tK OT) (fun js => tK T ((0 + (k : Int).toNat) :: List.tail (subIx (0 : Nat) js))) [i]) ∧ (∀ (i : Nat), i < (OT ++ [T.getD k z0]).length → tC (OT ++ [T.getD k z0]) [i] = appF OT.length (0 : Nat) (tC OT) (fun js => tC T ((0 + (k : Int).toNat) :: List.tail (subIx (0 : Nat) js))) [i]) ∧ (∀ (i : Nat), i < (OT ++ [T.getD k z0]).length → tO (OT ++ [T.getD k z0]) [i] = appF OT.length (0 : Nat) (tO OT) (fun js => tO T ((0 + (k : Int).toNat) :: List.tail (subIx (0 : Nat) js))) [i]) ∧ (∀ (i : Nat), i < (OT ++ [T.getD k z0]).length → tS (OT ++ [T.getD k z0]) [i] = appF OT.length (0 : Nat) (tS OT) (fun js => tS T ((0 + (k : Int).toNat) :: List.tail (subIx (0 : Nat) js))) [i]) ∧ ∀ (i : Nat), i < (OT ++ [T.getD k z0]).length → tU [i] = appF OT.length (0 : Nat) tU (fun js => tU ((0 + (k : Int).toNat) :: List.tail (subIx (0 : Nat) js))) [i]) ∧ (OE ++ [e]).length = OE.length + (1 : Nat) ∧ ∀ (i : Nat), i < (OE ++ [e]).length → lN (OE ++ [e]) [i] = appF OE.length (0 : Nat) (lN OE) (fun js => lN E ((0 + (k : Int).toNat) :: List.tail (subIx (0 : Nat) js))) [i]) := by kernel_rfl

set_option maxHeartbeats 4000000 in
theorem c3y (NM NR : Nat) (MK RW : Ix → Bool) (T : List Tok) (E : List Nat) (S : Ix → Bool) (OT : List Tok) (OE : List Nat) (k : Nat) (e : Nat) (hk : k < T.length) (hT : T.length ≤ 1000) (hOT : OT.length ≤ 1000) (hOE : OE.length ≤ 1000) (he : lN E [k] = (e : Int)) (h : S [k] = true)  (v : SV) (L' : HF) (next : RunsTo Try.prog 8 (headOf Try.f8 3) (envAt Try.f8.ntmps ([(9, vL 103 1 T.length), (10, vL 104 1 T.length), (19, vL 107 5 (OT ++ [T.getD k z0]).length), (20, vL 108 1 (OE ++ [e]).length), (117, vL 102 5 T.length), (118, vN T.length), (119, vN (k + 1 : Nat))])) (Sx.look ((rbE 61 NM MK ++ rbE 62 NR RW) ++ ((dE 102 T ++ [⟨103, true, none, 1, .ta T.length (.vi .i64 (lN E))⟩]) ++ (wbE 104 T.length S ++ (dE 107 (OT ++ [T.getD k z0]) ++ nE 108 (OE ++ [e])))))) 80 (v) (L') 400) :
    RunsTo Try.prog 8 (headOf Try.f8 3) (envAt Try.f8.ntmps ([(9, vL 103 1 T.length), (10, vL 104 1 T.length), (19, vL 107 5 (OT).length), (20, vL 108 1 (OE).length), (117, vL 102 5 T.length), (118, vN T.length), (119, vN (k : Nat))])) (Sx.look ((rbE 61 NM MK ++ rbE 62 NR RW) ++ ((dE 102 T ++ [⟨103, true, none, 1, .ta T.length (.vi .i64 (lN E))⟩]) ++ (wbE 104 T.length S ++ (dE 107 (OT) ++ nE 108 (OE)))))) 80 (v) (L') 400 := by
  have hw : IntKind.i64.wrap ((k : Int) + 1) = ((k + 1 : Nat) : Int) := by rw [wr64 (by omega)]; rfl
  refine runs_more baseC (More.of (c3y_p0 NM NR MK RW T E S OT OE k e) ⟨(okc ?_ (okc ?_ (okc ?_ (okc ?_ (okc ?_ (okc ?_ (okc ?_ (okc ?_ (okc ?_ (okc ?_ (okc ?_ (okc ?_ (okc ?_ (okc ?_ (okc ?_ okn))))))))))))))), rfl, ?_⟩) (by kernel_rfl) (by kernel_rfl) rfl (gtL (by decide)) (by decide) next
  all_goals clear next
  all_goals first | (refine And.intro ?_ ?_ <;> ((simp (disch := omega) only [SS, hw, he, Go.Sx.sum, List.length_append, List.length_cons, List.length_nil, Nat.zero_add]); (repeat' apply And.intro); (all_goals first | exact True.intro | with_reducible rfl | omega | exact tKA OT _ _ rfl | exact tCA OT _ _ rfl | exact tOA OT _ _ rfl | exact tSA OT _ _ rfl | (intro k hk; exact tUA _ _ _ (fun _ => rfl) (fun _ => rfl) k) | exact lNA OE _ _ he | (intros; simp_all; done) | (simp_all; done)))) | (((try simp (disch := omega) only [SS, hw, h]); first | done | omega | assumption | (simp (disch := omega) only [SS, hw, h] at *; first | done | omega | assumption) | (simp_all; done)))

theorem c3n_p0 (NM NR : Nat) (MK RW : Ix → Bool) (T : List Tok) (E : List Nat) (S : Ix → Bool) (OT : List Tok) (OE : List Nat) (k : Nat) :
    isMore (evTill Try.prog sumsC 600 (behind Try.f8 3) 900 8 (headOf Try.f8 3) (envAt Try.f8.ntmps ([(9, vL 103 1 T.length), (10, vL 104 1 T.length), (19, vL 107 5 (OT).length), (20, vL 108 1 (OE).length), (117, vL 102 5 T.length), (118, vN T.length), (119, vN (k : Nat))])) ((rbE 61 NM MK ++ rbE 62 NR RW) ++ ((dE 102 T ++ [⟨103, true, none, 1, .ta T.length (.vi .i64 (lN E))⟩]) ++ (wbE 104 T.length S ++ (dE 107 (OT) ++ nE 108 (OE))))) ⟨[.s true, .s true, .s true, .s true, .s true, .s true, .s true, .s false], 130⟩) (moreP (headOf Try.f8 3) ([]) Try.f8.ntmps ([(9, vL 103 1 T.length), (10, vL 104 1 T.length), (19, vL 107 5 (OT).length), (20, vL 108 1 (OE).length), (117, vL 102 5 T.length), (118, vN T.length), (119, vN (k + 1 : Nat))]) ((dE 102 T ++ [⟨103, true, none, 1, .ta T.length (.vi .i64 (lN E))⟩]) ++ (wbE 104 T.length S ++ (dE 107 (OT) ++ nE 108 (OE)))) 400) =
    (OkL [(decide ((k : Int) < (↑T.length : Int)), true), (decide ((0 : Int) ≤ (k : Int) ∧ (k : Int) < (↑T.length : Int)), true), ((0 + (k : Int).toNat).blt T.length, true), ((0 + (k : Int).toNat).blt T.length, true), (decide ((0 : Int) ≤ (k : Int) ∧ (k : Int) < (↑T.length : Int)), true), ((0 + (k : Int).toNat).blt T.length, true), ((0 + (k : Int).toNat).blt T.length, true), (S [0 + (k : Int).toNat], false)] ∧ headOf Try.f8 3 = headOf Try.f8 3 ∧ ((0 = 0 ∧ T.length = T.length) ∧ (0 = 0 ∧ T.length = T.length) ∧ (0 = 0 ∧ OT.length = OT.length) ∧ (0 = 0 ∧ OE.length = OE.length) ∧ (0 = 0 ∧ T.length = T.length) ∧ (↑T.length : Int) = (↑T.length : Int) ∧ (↑(k + (1 : Nat)) : Int) = IntKind.i64.wrap ((k : Int) + 1)) ∧ (T.length = T.length ∧ (∀ (i : Nat), i < T.length → tK T [i] = tK T [i]) ∧ (∀ (i : Nat), i < T.length → tC T [i] = tC T [i]) ∧ (∀ (i : Nat), i < T.length → tO T [i] = tO T [i]) ∧ (∀ (i : Nat), i < T.length → tS T [i] = tS T [i]) ∧ ∀ (i : Nat), i < T.length → tU [i] = tU [i]) ∧ (T.length = T.length ∧ ∀ (i : Nat), i < T.length → lN E [i] = lN E [i]) ∧ (T.length = T.length ∧ ∀ (i : Nat), i < T.length → S [i] = S [i]) ∧ (OT.length = OT.length ∧ (∀ (i : Nat), i < OT.length → tK OT [i] = tK OT [i]) ∧ (∀ (i : Nat), i < OT.length → tC OT [i] = tC OT [i]) ∧ (∀ (i : Nat), i < OT.length → tO OT [i] = tO OT [i]) ∧ (∀ (i : Nat), i < OT.length → tS OT [i] = tS OT [i]) ∧ ∀ (i : Nat), i < OT.length → tU [i] = tU [i]) ∧ OE.length = OE.length ∧ ∀ (i : Nat), i < OE.length → lN OE [i] = lN OE [i]) := by kernel_rfl

set_option maxHeartbeats 4000000 in
theorem c3n (NM NR : Nat) (MK RW : Ix → Bool) (T : List Tok) (E : List Nat) (S : Ix → Bool) (OT : List Tok) (OE : List Nat) (k : Nat) (hk : k < T.length) (hT : T.length ≤ 1000) (hOT : OT.length ≤ 1000) (hOE : OE.length ≤ 1000) (h : S [k] = false)  (v : SV) (L' : HF) (next : RunsTo Try.prog 8 (headOf Try.f8 3) (envAt Try.f8.ntmps ([(9, vL 103 1 T.length), (10, vL 104 1 T.length), (19, vL 107 5 (OT).length), (20, vL 108 1 (OE).length), (117, vL 102 5 T.length), (118, vN T.length), (119, vN (k + 1 : Nat))])) (Sx.look ((rbE 61 NM MK ++ rbE 62 NR RW) ++ ((dE 102 T ++ [⟨103, true, none, 1, .ta T.length (.vi .i64 (lN E))⟩]) ++ (wbE 104 T.length S ++ (dE 107 (OT) ++ nE 108 (OE)))))) 80 (v) (L') 400) :
    RunsTo Try.prog 8 (headOf Try.f8 3) (envAt Try.f8.ntmps ([(9, vL 103 1 T.length), (10, vL 104 1 T.length), (19, vL 107 5 (OT).length), (20, vL 108 1 (OE).length), (117, vL 102 5 T.length), (118, vN T.length), (119, vN (k : Nat))])) (Sx.look ((rbE 61 NM MK ++ rbE 62 NR RW) ++ ((dE 102 T ++ [⟨103, true, none, 1, .ta T.length (.vi .i64 (lN E))⟩]) ++ (wbE 104 T.length S ++ (dE 107 (OT) ++ nE 108 (OE)))))) 80 (v) (L') 400 := by
  have hw : IntKind.i64.wrap ((k : Int) + 1) = ((k + 1 : Nat) : Int) := by rw [wr64 (by omega)]; rfl
  refine runs_more baseC (More.of (c3n_p0 NM NR MK RW T E S OT OE k) ⟨(okc ?_ (okc ?_ (okc ?_ (okc ?_ (okc ?_ (okc ?_ (okc ?_ (okc ?_ okn)))))))), rfl, ?_⟩) (by kernel_rfl) (by kernel_rfl) rfl (gtL (by decide)) (by decide) next
  all_goals clear next
  all_goals first | (refine And.intro ?_ ?_ <;> ((try simp (disch := omega) only [SS, hw, h]); (repeat' apply And.intro); (all_goals first | exact True.intro | with_reducible rfl | omega | (intros; first | exact True.intro | with_reducible rfl | omega | (simp_all; done)) | (simp_all; done) | rfl))) | (((try simp (disch := omega) only [SS, hw, h]); first | done | omega | assumption | (simp (disch := omega) only [SS, hw, h] at *; first | done | omega | assumption) | (simp_all; done)))

theorem c3e_p0 (NM NR : Nat) (MK RW : Ix → Bool) (T : List Tok) (E : List Nat) (S : Ix → Bool) (OT : List Tok) (OE : List Nat) (k : Nat) :
    isEnd (evTill Try.prog sumsC 600 (99) 900 8 (headOf Try.f8 3) (envAt Try.f8.ntmps ([(9, vL 103 1 T.length), (10, vL 104 1 T.length), (19, vL 107 5 (OT).length), (20, vL 108 1 (OE).length), (117, vL 102 5 T.length), (118, vN T.length), (119, vN (k : Nat))])) ((rbE 61 NM MK ++ rbE 62 NR RW) ++ ((dE 102 T ++ [⟨103, true, none, 1, .ta T.length (.vi .i64 (lN E))⟩]) ++ (wbE 104 T.length S ++ (dE 107 (OT) ++ nE 108 (OE))))) ⟨[.s false], 130⟩) (endP ([(102, Rn.to 107), (103, Rn.to 108)]) (.tup [(false, .vl 102 (fun _ => 0) 5 [] (fun _ => OT.length)), (false, .vl 103 (fun _ => 0) 1 [] (fun _ => OE.length))]) (dE 102 OT ++ nE 103 OE) 400) =
    (OkL [(decide ((k : Int) < (↑T.length : Int)), false)] ∧ ((0 = 0 ∧ OT.length = OT.length) ∧ (0 = 0 ∧ OE.length = OE.length) ∧ True) ∧ (OT.length = OT.length ∧ (∀ (i : Nat), i < OT.length → tK OT [i] = tK OT [i]) ∧ (∀ (i : Nat), i < OT.length → tC OT [i] = tC OT [i]) ∧ (∀ (i : Nat), i < OT.length → tO OT [i] = tO OT [i]) ∧ (∀ (i : Nat), i < OT.length → tS OT [i] = tS OT [i]) ∧ ∀ (i : Nat), i < OT.length → tU [i] = tU [i]) ∧ OE.length = OE.length ∧ ∀ (i : Nat), i < OE.length → lN OE [i] = lN OE [i]) := by kernel_rfl

set_option maxHeartbeats 4000000 in
theorem c3e (NM NR : Nat) (MK RW : Ix → Bool) (T : List Tok) (E : List Nat) (S : Ix → Bool) (OT : List Tok) (OE : List Nat) (k : Nat) (hk : k = T.length) (hT : T.length ≤ 1000)  :
    RunsTo Try.prog 8 (headOf Try.f8 3) (envAt Try.f8.ntmps ([(9, vL 103 1 T.length), (10, vL 104 1 T.length), (19, vL 107 5 (OT).length), (20, vL 108 1 (OE).length), (117, vL 102 5 T.length), (118, vN T.length), (119, vN (k : Nat))])) (Sx.look ((rbE 61 NM MK ++ rbE 62 NR RW) ++ ((dE 102 T ++ [⟨103, true, none, 1, .ta T.length (.vi .i64 (lN E))⟩]) ++ (wbE 104 T.length S ++ (dE 107 (OT) ++ nE 108 (OE)))))) 80 (.tup [(false, .vl 102 (fun _ => 0) 5 [] (fun _ => OT.length)), (false, .vl 103 (fun _ => 0) 1 [] (fun _ => OE.length))]) (Sx.look (dE 102 OT ++ nE 103 OE)) 400 := by
  refine runs_last baseC (Sx.Ends.of (c3e_p0 NM NR MK RW T E S OT OE k) ⟨(okc ?_ okn), ?_⟩) (by kernel_rfl) rfl (gtL (by decide)) (by decide)
  all_goals first | (refine And.intro ?_ ?_ <;> ((try simp (disch := omega) only [SS]); (repeat' apply And.intro); (all_goals first | exact True.intro | with_reducible rfl | omega | (intros; first | exact True.intro | with_reducible rfl | omega | (simp_all; done)) | (simp_all; done) | rfl))) | (((try simp (disch := omega) only [SS]); first | done | omega | assumption | (simp (disch := omega) only [SS] at *; first | done | omega | assumption) | (simp_all; done)))

end Go.Proofs.Ytcphocfnhekdaaa

set_option linter.unusedSimpArgs false
set_option linter.unusedVariables false
set_option maxRecDepth 100000
namespace Go.Proofs.Ytcphocfnhekdaaa
open Go.Sx CleanR

/-- The places behind each other, and codes of one byte. -/
abbrev mq (F : Ix → Bool) : Nat → Bool := fun j => F [j]
def okT (MM : Nat) : Nat → List (Tok × Nat) → Prop
  | _, [] => True
  | a, (t, e) :: r => a ≤ e ∧ e < MM ∧ t.code < 256 ∧ okT MM (e + 1) r
theorem sub_code (o : Nat) : ∀ (k : Nat) (r b : List UInt8) (i : Nat), r.length ≤ k → (subR o r b i).1.code < 256 := by
  intro k
  induction k with
  | zero =>
    intro r b i h
    have : r = [] := List.length_eq_zero_iff.1 (by omega)
    subst this
    simp [subR, z0]
  | succ k ih =>
    intro r b i h
    match r with
    | [] => simp [subR, z0]
    | c :: r =>
      by_cases hc : c = 255
      · subst hc
        match r with
        | [] => simp [subR, z0]
        | d :: r' =>
          obtain ⟨e1, e2, e3⟩ := sbL_x o b i d r'
          by_cases h1 : d = 255
          · rw [e1 h1]; exact ih _ _ _ (by simp at h; omega)
          · by_cases h2 : d = 240
            · rw [e2 h2]; simp [tk]
            · rw [e3 h1 h2]; exact d.toNat_lt
      · rw [sub_n _ _ _ _ hc]; exact ih _ _ _ (by simp at h; omega)
theorem next_code (s : List UInt8) : (nextR s).1.code < 256 := by
  match s with
  | [] => simp [nextR, z0]
  | [c] =>
    by_cases h : c = 255
    · subst h; simp [nextR, z0]
    · simp [nextR, h]; exact c.toNat_lt
  | c :: d :: r =>
    by_cases h : c = 255
    · subst h
      by_cases h1 : d = 255
      · subst h1; simp [nextR]
      · by_cases h2 : d.toNat < 250
        · simp [nextR, h1, h2]; exact d.toNat_lt
        · match r with
          | [] => simp [nextR, h1, h2, z0]
          | x :: r3 =>
            by_cases h3 : 250 < d.toNat
            · simp [nextR, h1, h2, h3]; exact d.toNat_lt
            · simp [nextR, h1, h2, h3]; exact sub_code _ _ _ _ _ (Nat.le_refl _)
    · rw [nextR.eq_def]; simp [h]; exact c.toNat_lt
theorem toks_ok : ∀ (k a : Nat) (s : List UInt8) (MM : Nat), a + s.length ≤ MM → okT MM a (toksR k a s)
  | 0, _, _, _, _ => trivial
  | k + 1, a, s, MM, h => by
    simp only [toksR]
    by_cases hz : (nextR s).2 = 0
    · rw [if_pos hz]; trivial
    · rw [if_neg hz]
      have hl := next_le s hz
      refine ⟨by omega, by omega, next_code s, ?_⟩
      rw [show a + (nextR s).2 - 1 + 1 = a + (nextR s).2 by omega]
      exact toks_ok k _ _ MM (by rw [List.length_drop]; omega)
theorem okT_at {MM : Nat} : ∀ (TT : List (Tok × Nat)) (a : Nat), okT MM a TT → ∀ i, i < TT.length → (if i = 0 then a else lastA TT i) ≤ enA TT i ∧ enA TT i < MM ∧ (tkA TT i).code < 256
  | [], _, _, i, hi => by simp at hi
  | (t, e) :: r, a, h, 0, hi => ⟨h.1, h.2.1, h.2.2.1⟩
  | (t, e) :: r, a, h, i + 1, hi => by
    have q := okT_at r (e + 1) h.2.2.2 i (by simpa using hi)
    have e1 : enA ((t, e) :: r) (i + 1) = enA r i := by simp [enA]
    have e2 : tkA ((t, e) :: r) (i + 1) = tkA r i := by simp [tkA]
    rw [e1, e2, if_neg (by omega)]
    refine ⟨?_, q.2⟩
    have q1 := q.1
    cases i with
    | zero => simpa [lastA, enA] using q1
    | succ i => rw [if_neg (by omega)] at q1; simpa [lastA, enA] using q1
theorem fst_get (TT : List (Tok × Nat)) (i : Nat) : (TT.map Prod.fst).getD i z0 = tkA TT i := by
  simp only [tkA, List.getD_eq_getElem?_getD, List.getElem?_map]; cases TT[i]? <;> rfl
theorem snd_get (TT : List (Tok × Nat)) (i : Nat) : lN (TT.map Prod.snd) [i] = (enA TT i : Int) := by
  simp only [lN, enA, List.headD_cons, List.getD_eq_getElem?_getD, List.getElem?_map]; cases TT[i]? <;> rfl
theorem dataA_len (mk rw : Nat → Bool) (TT : List (Tok × Nat)) : ∀ n, (dataA mk rw TT n).length ≤ n
  | 0 => by simp [dataA]
  | n + 1 => by
    have := dataA_len mk rw TT n
    simp only [dataA]; split <;> simp <;> omega
/-- What stays, ahead of layer 8: kind by kind. -/
def s1A (TT : List (Tok × Nat)) : Nat → Ix → Bool
  | 0 => fun _ => false
  | n + 1 => upd (s1A TT n) [n] (decide ((tkA TT n).kind ≠ 1))
/-- What stays behind j of the data. -/
def s2A (mk rw : Nat → Bool) (TT : List (Tok × Nat)) (N : Nat) : Nat → Ix → Bool
  | 0 => s1A TT N
  | j + 1 => upd (s2A mk rw TT N j) [((dataA mk rw TT N).map fun x => x.2.2).getD j 0] (!gnB ((dataA mk rw TT N).map fun x => UInt8.ofNat x.1) (fun is => ((dataA mk rw TT N).map fun x => x.2.1).getD (is.headD 0) false) j)
def out3 (TT : List (Tok × Nat)) (S : Ix → Bool) : Nat → List (Tok × Nat)
  | 0 => []
  | n + 1 => if S [n] = true then out3 TT S n ++ [(tkA TT n, enA TT n)] else out3 TT S n
theorem out3_len (TT : List (Tok × Nat)) (S : Ix → Bool) : ∀ n, (out3 TT S n).length ≤ n
  | 0 => by simp [out3]
  | n + 1 => by
    have := out3_len TT S n
    simp only [out3]; split <;> simp <;> omega
section
variable (NM NR : Nat) (MK RW : Ix → Bool) (TT : List (Tok × Nat)) (v : SV) (L' : HF)
theorem c1L (S : Ix → Bool) (d : List UInt8) (F : List Bool) (P : List Nat) (i : Nat) (hi : i < TT.length) (hT : TT.length ≤ 1000) (hd : d.length ≤ 1000) (hF : F.length ≤ 1000) (hP : P.length ≤ 1000) (he : enA TT i < NM) (he2 : enA TT i < 900) :
    ∀ (k last : Nat) (df : Bool), last + k = enA TT i + 1 → RunsTo Try.prog 8 (headOf Try.f8 1) (envAt Try.f8.ntmps ([(1, vL 61 1 NM), (2, vL 62 1 NR), (8, vL 102 5 (TT.map Prod.fst).length), (9, vL 103 1 (TT.map Prod.fst).length), (10, vL 104 1 (TT.map Prod.fst).length), (11, vS (d)), (12, vL 105 1 (F).length), (13, vL 106 1 (P).length), (14, vN ((enA TT i + 1) : Nat)), (15, vB (df || anyK (mq MK) k last)), (16, vN (i : Nat)), (17, vP 111), (33, vL 102 5 (TT.map Prod.fst).length), (34, vN (TT.map Prod.fst).length), (35, vN (i : Nat))])) (Sx.look ((rbE 61 NM MK ++ rbE 62 NR RW) ++ (oE 111 ((TT.map Prod.fst).getD i z0) ++ ((dE 102 (TT.map Prod.fst) ++ [⟨103, true, none, 1, .ta (TT.map Prod.fst).length (.vi .i64 (lN (TT.map Prod.snd)))⟩]) ++ (wbE 104 (TT.map Prod.fst).length (S) ++ (fE 105 (F) ++ nE 106 (P))))))) 80 v L' 400 → RunsTo Try.prog 8 (headOf Try.f8 1) (envAt Try.f8.ntmps ([(1, vL 61 1 NM), (2, vL 62 1 NR), (8, vL 102 5 (TT.map Prod.fst).length), (9, vL 103 1 (TT.map Prod.fst).length), (10, vL 104 1 (TT.map Prod.fst).length), (11, vS (d)), (12, vL 105 1 (F).length), (13, vL 106 1 (P).length), (14, vN (last : Nat)), (15, vB df), (16, vN (i : Nat)), (17, vP 111), (33, vL 102 5 (TT.map Prod.fst).length), (34, vN (TT.map Prod.fst).length), (35, vN (i : Nat))])) (Sx.look ((rbE 61 NM MK ++ rbE 62 NR RW) ++ (oE 111 ((TT.map Prod.fst).getD i z0) ++ ((dE 102 (TT.map Prod.fst) ++ [⟨103, true, none, 1, .ta (TT.map Prod.fst).length (.vi .i64 (lN (TT.map Prod.snd)))⟩]) ++ (wbE 104 (TT.map Prod.fst).length (S) ++ (fE 105 (F) ++ nE 106 (P))))))) 80 v L' 400 := by
  intro k
  induction k with
  | zero => intro last df hk next; simpa [anyK, show last = enA TT i + 1 by omega] using next
  | succ k ih =>
    intro last df hk next
    refine c1s NM NR MK RW (TT.map Prod.fst) (TT.map Prod.snd) S d F P i last df (by simpa using hi) (by simp) (by simpa using hT) hd hF hP (by omega) (by rw [snd_get]; omega) (by omega) v L' ?_
    exact ih (last + 1) _ (by omega) (by simpa [anyK, Bool.or_assoc] using next)
theorem c0S (MM : Nat) (hok : okT MM 0 TT) (hM1 : MM ≤ NM) (hM2 : MM ≤ NR) (hM3 : MM ≤ 900) (hT : TT.length ≤ 900) (i : Nat) (hi : i < TT.length) (next : RunsTo Try.prog 8 (headOf Try.f8 0) (envAt Try.f8.ntmps ([(1, vL 61 1 NM), (2, vL 62 1 NR), (8, vL 102 5 (TT.map Prod.fst).length), (9, vL 103 1 (TT.map Prod.fst).length), (10, vL 104 1 (TT.map Prod.fst).length), (11, vS (((dataA (mq MK) (mq RW) TT (i + 1)).map fun x => UInt8.ofNat x.1))), (12, vL 105 1 (((dataA (mq MK) (mq RW) TT (i + 1)).map fun x => x.2.1)).length), (13, vL 106 1 (((dataA (mq MK) (mq RW) TT (i + 1)).map fun x => x.2.2)).length), (14, vN ((lastA TT (i + 1)) : Nat)), (15, vB (dfA (mq MK) TT (i + 1))), (33, vL 102 5 (TT.map Prod.fst).length), (34, vN (TT.map Prod.fst).length), (35, vN ((i + 1) : Nat))])) (Sx.look ((rbE 61 NM MK ++ rbE 62 NR RW) ++ ((dE 102 (TT.map Prod.fst) ++ [⟨103, true, none, 1, .ta (TT.map Prod.fst).length (.vi .i64 (lN (TT.map Prod.snd)))⟩]) ++ (wbE 104 (TT.map Prod.fst).length (s1A TT (i + 1)) ++ (fE 105 (((dataA (mq MK) (mq RW) TT (i + 1)).map fun x => x.2.1)) ++ nE 106 (((dataA (mq MK) (mq RW) TT (i + 1)).map fun x => x.2.2))))))) 80 v L' 400) : RunsTo Try.prog 8 (headOf Try.f8 0) (envAt Try.f8.ntmps ([(1, vL 61 1 NM), (2, vL 62 1 NR), (8, vL 102 5 (TT.map Prod.fst).length), (9, vL 103 1 (TT.map Prod.fst).length), (10, vL 104 1 (TT.map Prod.fst).length), (11, vS (((dataA (mq MK) (mq RW) TT i).map fun x => UInt8.ofNat x.1))), (12, vL 105 1 (((dataA (mq MK) (mq RW) TT i).map fun x => x.2.1)).length), (13, vL 106 1 (((dataA (mq MK) (mq RW) TT i).map fun x => x.2.2)).length), (14, vN ((lastA TT i) : Nat)), (15, vB (dfA (mq MK) TT i)), (33, vL 102 5 (TT.map Prod.fst).length), (34, vN (TT.map Prod.fst).length), (35, vN (i : Nat))])) (Sx.look ((rbE 61 NM MK ++ rbE 62 NR RW) ++ ((dE 102 (TT.map Prod.fst) ++ [⟨103, true, none, 1, .ta (TT.map Prod.fst).length (.vi .i64 (lN (TT.map Prod.snd)))⟩]) ++ (wbE 104 (TT.map Prod.fst).length (s1A TT i) ++ (fE 105 (((dataA (mq MK) (mq RW) TT i).map fun x => x.2.1)) ++ nE 106 (((dataA (mq MK) (mq RW) TT i).map fun x => x.2.2))))))) 80 v L' 400 := by
  obtain ⟨q1, q2, q3⟩ := okT_at TT 0 hok i hi
  have ql : lastA TT i ≤ enA TT i := by
    cases i with
    | zero => simp [lastA]
    | succ i => rwa [if_neg (by omega)] at q1
  have dl := dataA_len (mq MK) (mq RW) TT i
  have d1 : ((dataA (mq MK) (mq RW) TT i).map fun x => UInt8.ofNat x.1).length ≤ 1000 := by rw [List.length_map]; omega
  have d2 : ((dataA (mq MK) (mq RW) TT i).map fun x => x.2.1).length ≤ 1000 := by rw [List.length_map]; omega
  have d3 : ((dataA (mq MK) (mq RW) TT i).map fun x => x.2.2).length ≤ 1000 := by rw [List.length_map]; omega
  have hi' : i < (TT.map Prod.fst).length := by simpa using hi
  have hE' : (TT.map Prod.snd).length = (TT.map Prod.fst).length := by simp
  have hT' : (TT.map Prod.fst).length ≤ 1000 := by rw [List.length_map]; omega
  have hgt : lN (TT.map Prod.snd) [i] < ((enA TT i + 1 : Nat) : Int) := by rw [snd_get]; omega
  have ht := fst_get TT i
  refine c1 NM NR _ _ _ _ _ _ _ _ i (lastA TT i) _ hi' hE' hT' d1 d2 d3 (by omega) v L' ?_
  refine c1L NM NR MK RW TT v L' _ _ _ _ i hi (by omega) d1 d2 d3 (by omega) (by omega) (enA TT i + 1 - lastA TT i) (lastA TT i) _ (by omega) ?_
  have eL : lastA TT (i + 1) = enA TT i + 1 := rfl
  rw [eL] at next
  by_cases hk : (tkA TT i).kind = 1
  · have hDM : isDM (tkA TT i) = false := by simp [isDM, hk]
    have eS : s1A TT (i + 1) = upd (s1A TT i) [i] false := by simp [s1A, hk]
    have eD : dfA (mq MK) TT (i + 1) = (dfA (mq MK) TT i || anyK (mq MK) (enA TT i + 1 - lastA TT i) (lastA TT i)) := by simp [dfA, hDM]
    rw [eS, eD] at next
    cases hdf : (dfA (mq MK) TT i || anyK (mq MK) (enA TT i + 1 - lastA TT i) (lastA TT i)) with
    | true =>
      have hh : heardA (mq MK) TT i = false := by simp only [heardA, hdf]; simp
      rw [show dataA (mq MK) (mq RW) TT (i + 1) = dataA (mq MK) (mq RW) TT i by simp only [dataA, hh]; rfl] at next
      rw [hdf] at next
      exact cDeaf NM NR _ _ _ _ _ _ _ _ i _ true _ hi' hE' hT' d1 d2 d3 (by omega) hgt ht hk rfl v L' next
    | false =>
      have hh : heardA (mq MK) TT i = true := by simp only [heardA, hdf, hk]; rfl
      rw [show dataA (mq MK) (mq RW) TT (i + 1) = dataA (mq MK) (mq RW) TT i ++ [((tkA TT i).code, mq RW (enA TT i), i)] by simp only [dataA, hh]; rfl] at next
      simp only [List.map_append, List.map_cons, List.map_nil] at next
      rw [hdf] at next
      exact cHear NM NR _ _ _ _ _ _ _ _ i _ false _ (enA TT i) hi' hE' hT' d1 d2 d3 (by omega) hgt ht (snd_get TT i) (by omega) q3 hk rfl v L' next
  · have hh : heardA (mq MK) TT i = false := by simp [heardA, hk]
    rw [show dataA (mq MK) (mq RW) TT (i + 1) = dataA (mq MK) (mq RW) TT i by simp only [dataA, hh]; rfl] at next
    rw [show s1A TT (i + 1) = upd (s1A TT i) [i] true by simp [s1A, hk]] at next
    by_cases hDM : (tkA TT i).kind = 2 ∧ (tkA TT i).code = 242
    · rw [show dfA (mq MK) TT (i + 1) = false by simp [dfA, isDM, hDM.1, hDM.2]] at next
      exact cDM NM NR _ _ _ _ _ _ _ _ i _ _ _ hi' hE' hT' d1 d2 d3 (by omega) hgt ht hDM.1 hDM.2 v L' next
    · have hd2 : isDM (tkA TT i) = false := by
        simp only [isDM, Bool.and_eq_false_iff, beq_eq_false_iff_ne]
        by_cases a : (tkA TT i).kind = 2
        · exact .inr (fun b => hDM ⟨a, b⟩)
        · exact .inl a
      rw [show dfA (mq MK) TT (i + 1) = (dfA (mq MK) TT i || anyK (mq MK) (enA TT i + 1 - lastA TT i) (lastA TT i)) by simp [dfA, hd2]] at next
      exact cOth NM NR _ _ _ _ _ _ _ _ i _ _ _ hi' hE' hT' d1 d2 d3 (by omega) hgt ht hk hDM v L' next
theorem c0L (MM : Nat) (hok : okT MM 0 TT) (hM1 : MM ≤ NM) (hM2 : MM ≤ NR) (hM3 : MM ≤ 900) (hT : TT.length ≤ 900) (next : RunsTo Try.prog 8 (headOf Try.f8 0) (envAt Try.f8.ntmps ([(1, vL 61 1 NM), (2, vL 62 1 NR), (8, vL 102 5 (TT.map Prod.fst).length), (9, vL 103 1 (TT.map Prod.fst).length), (10, vL 104 1 (TT.map Prod.fst).length), (11, vS (((dataA (mq MK) (mq RW) TT TT.length).map fun x => UInt8.ofNat x.1))), (12, vL 105 1 (((dataA (mq MK) (mq RW) TT TT.length).map fun x => x.2.1)).length), (13, vL 106 1 (((dataA (mq MK) (mq RW) TT TT.length).map fun x => x.2.2)).length), (14, vN ((lastA TT TT.length) : Nat)), (15, vB (dfA (mq MK) TT TT.length)), (33, vL 102 5 (TT.map Prod.fst).length), (34, vN (TT.map Prod.fst).length), (35, vN (TT.length : Nat))])) (Sx.look ((rbE 61 NM MK ++ rbE 62 NR RW) ++ ((dE 102 (TT.map Prod.fst) ++ [⟨103, true, none, 1, .ta (TT.map Prod.fst).length (.vi .i64 (lN (TT.map Prod.snd)))⟩]) ++ (wbE 104 (TT.map Prod.fst).length (s1A TT TT.length) ++ (fE 105 (((dataA (mq MK) (mq RW) TT TT.length).map fun x => x.2.1)) ++ nE 106 (((dataA (mq MK) (mq RW) TT TT.length).map fun x => x.2.2))))))) 80 v L' 400) : ∀ (k i : Nat), i + k = TT.length → RunsTo Try.prog 8 (headOf Try.f8 0) (envAt Try.f8.ntmps ([(1, vL 61 1 NM), (2, vL 62 1 NR), (8, vL 102 5 (TT.map Prod.fst).length), (9, vL 103 1 (TT.map Prod.fst).length), (10, vL 104 1 (TT.map Prod.fst).length), (11, vS (((dataA (mq MK) (mq RW) TT i).map fun x => UInt8.ofNat x.1))), (12, vL 105 1 (((dataA (mq MK) (mq RW) TT i).map fun x => x.2.1)).length), (13, vL 106 1 (((dataA (mq MK) (mq RW) TT i).map fun x => x.2.2)).length), (14, vN ((lastA TT i) : Nat)), (15, vB (dfA (mq MK) TT i)), (33, vL 102 5 (TT.map Prod.fst).length), (34, vN (TT.map Prod.fst).length), (35, vN (i : Nat))])) (Sx.look ((rbE 61 NM MK ++ rbE 62 NR RW) ++ ((dE 102 (TT.map Prod.fst) ++ [⟨103, true, none, 1, .ta (TT.map Prod.fst).length (.vi .i64 (lN (TT.map Prod.snd)))⟩]) ++ (wbE 104 (TT.map Prod.fst).length (s1A TT i) ++ (fE 105 (((dataA (mq MK) (mq RW) TT i).map fun x => x.2.1)) ++ nE 106 (((dataA (mq MK) (mq RW) TT i).map fun x => x.2.2))))))) 80 v L' 400 := by
  intro k
  induction k with
  | zero => intro i hi; rw [show i = TT.length by omega]; exact next
  | succ k ih => intro i hi; exact c0S NM NR MK RW TT v L' MM hok hM1 hM2 hM3 hT i (by omega) (ih (i + 1) (by omega))
theorem place_ok (mk rw : Nat → Bool) (TT : List (Tok × Nat)) : ∀ n, ∀ x ∈ dataA mk rw TT n, x.2.2 < n
  | 0, x, h => by simp [dataA] at h
  | n + 1, x, h => by
    simp only [dataA] at h
    split at h
    · rcases List.mem_append.1 h with h | h
      · have := place_ok mk rw TT n x h; omega
      · simp at h; subst h; simp
    · have := place_ok mk rw TT n x h; omega
theorem place_get (mk rw : Nat → Bool) (TT : List (Tok × Nat)) (n j : Nat) (h : j < (dataA mk rw TT n).length) : ((dataA mk rw TT n).map fun x => x.2.2).getD j 0 < n := by
  have : ((dataA mk rw TT n).map fun x => x.2.2).getD j 0 = ((dataA mk rw TT n)[j]).2.2 := by
    rw [List.getD_eq_getElem?_getD, List.getElem?_map, List.getElem?_eq_getElem h]; rfl
  rw [this]; exact place_ok mk rw TT n _ (List.getElem_mem h)
theorem c2L (hT : TT.length ≤ 900) (next : RunsTo Try.prog 8 (headOf Try.f8 2) (envAt Try.f8.ntmps ([(8, vL 102 5 (TT.map Prod.fst).length), (9, vL 103 1 (TT.map Prod.fst).length), (10, vL 104 1 (TT.map Prod.fst).length), (11, vS ((dataA (mq MK) (mq RW) TT TT.length).map fun x => UInt8.ofNat x.1)), (12, vL 105 1 ((dataA (mq MK) (mq RW) TT TT.length).map fun x => x.2.1).length), (13, vL 106 1 ((dataA (mq MK) (mq RW) TT TT.length).map fun x => x.2.2).length), (99, vN ((dataA (mq MK) (mq RW) TT TT.length).map fun x => x.2.2).length), (100, vN ((dataA (mq MK) (mq RW) TT TT.length).length : Nat))])) (Sx.look ((rbE 61 NM MK ++ rbE 62 NR RW) ++ ((dE 102 (TT.map Prod.fst) ++ [⟨103, true, none, 1, .ta (TT.map Prod.fst).length (.vi .i64 (lN (TT.map Prod.snd)))⟩]) ++ (wbE 104 (TT.map Prod.fst).length (s2A (mq MK) (mq RW) TT TT.length (dataA (mq MK) (mq RW) TT TT.length).length) ++ (fE 105 (((dataA (mq MK) (mq RW) TT TT.length).map fun x => x.2.1)) ++ nE 106 (((dataA (mq MK) (mq RW) TT TT.length).map fun x => x.2.2))))))) 80 v L' 400) : ∀ (k j : Nat), j + k = (dataA (mq MK) (mq RW) TT TT.length).length → RunsTo Try.prog 8 (headOf Try.f8 2) (envAt Try.f8.ntmps ([(8, vL 102 5 (TT.map Prod.fst).length), (9, vL 103 1 (TT.map Prod.fst).length), (10, vL 104 1 (TT.map Prod.fst).length), (11, vS ((dataA (mq MK) (mq RW) TT TT.length).map fun x => UInt8.ofNat x.1)), (12, vL 105 1 ((dataA (mq MK) (mq RW) TT TT.length).map fun x => x.2.1).length), (13, vL 106 1 ((dataA (mq MK) (mq RW) TT TT.length).map fun x => x.2.2).length), (99, vN ((dataA (mq MK) (mq RW) TT TT.length).map fun x => x.2.2).length), (100, vN (j : Nat))])) (Sx.look ((rbE 61 NM MK ++ rbE 62 NR RW) ++ ((dE 102 (TT.map Prod.fst) ++ [⟨103, true, none, 1, .ta (TT.map Prod.fst).length (.vi .i64 (lN (TT.map Prod.snd)))⟩]) ++ (wbE 104 (TT.map Prod.fst).length (s2A (mq MK) (mq RW) TT TT.length j) ++ (fE 105 (((dataA (mq MK) (mq RW) TT TT.length).map fun x => x.2.1)) ++ nE 106 (((dataA (mq MK) (mq RW) TT TT.length).map fun x => x.2.2))))))) 80 v L' 400 := by
  intro k
  have dl := dataA_len (mq MK) (mq RW) TT TT.length
  induction k with
  | zero => intro j hj; rw [show j = (dataA (mq MK) (mq RW) TT TT.length).length by omega]; exact next
  | succ k ih =>
    intro j hj
    exact c2s NM NR _ _ _ _ _ _ _ _ j _ (by rw [List.length_map]; omega) (by rw [List.length_map]; omega) rfl (by rw [List.length_map]; exact place_get (mq MK) (mq RW) TT _ j (by omega)) (by simp) (by simp) v L' (ih (j + 1) (by omega))
omit v L' in
theorem c3L (S : Ix → Bool) (hT : TT.length ≤ 900) : ∀ (k n : Nat), n + k = TT.length → RunsTo Try.prog 8 (headOf Try.f8 3) (envAt Try.f8.ntmps ([(9, vL 103 1 (TT.map Prod.fst).length), (10, vL 104 1 (TT.map Prod.fst).length), (19, vL 107 5 (((out3 TT S n).map Prod.fst)).length), (20, vL 108 1 (((out3 TT S n).map Prod.snd)).length), (117, vL 102 5 (TT.map Prod.fst).length), (118, vN (TT.map Prod.fst).length), (119, vN (n : Nat))])) (Sx.look ((rbE 61 NM MK ++ rbE 62 NR RW) ++ ((dE 102 (TT.map Prod.fst) ++ [⟨103, true, none, 1, .ta (TT.map Prod.fst).length (.vi .i64 (lN (TT.map Prod.snd)))⟩]) ++ (wbE 104 (TT.map Prod.fst).length S ++ (dE 107 (((out3 TT S n).map Prod.fst)) ++ nE 108 (((out3 TT S n).map Prod.snd))))))) 80 (.tup [(false, .vl 102 (fun _ => 0) 5 [] (fun _ => (((out3 TT S TT.length).map Prod.fst)).length)), (false, .vl 103 (fun _ => 0) 1 [] (fun _ => (((out3 TT S TT.length).map Prod.snd)).length))]) (Sx.look (dE 102 ((out3 TT S TT.length).map Prod.fst) ++ nE 103 ((out3 TT S TT.length).map Prod.snd))) 400 := by
  intro k
  induction k with
  | zero =>
    intro n hn
    have hn : n = TT.length := by omega
    subst hn
    exact c3e NM NR _ _ _ _ S _ _ _ (by simp) (by rw [List.length_map]; omega)
  | succ k ih =>
    intro n hn
    have ol := out3_len TT S n
    have q := ih (n + 1) (by omega)
    have hk : n < (TT.map Prod.fst).length := by rw [List.length_map]; omega
    have hT' : (TT.map Prod.fst).length ≤ 1000 := by rw [List.length_map]; omega
    have o1 : ((out3 TT S n).map Prod.fst).length ≤ 1000 := by rw [List.length_map]; omega
    have o2 : ((out3 TT S n).map Prod.snd).length ≤ 1000 := by rw [List.length_map]; omega
    cases hS : S [n] with
    | true =>
      rw [show out3 TT S (n + 1) = out3 TT S n ++ [(tkA TT n, enA TT n)] by simp only [out3, hS, if_true]] at q
      simp only [List.map_append, List.map_cons, List.map_nil] at q
      rw [← fst_get TT n] at q
      exact c3y NM NR _ _ _ _ S _ _ n (enA TT n) hk hT' o1 o2 (snd_get TT n) hS _ _ q
    | false =>
      rw [show out3 TT S (n + 1) = out3 TT S n by simp [out3, hS]] at q
      exact c3n NM NR _ _ _ _ S _ _ n hk hT' o1 o2 hS _ _ q
end
theorem s1_get (TT : List (Tok × Nat)) : ∀ n i, s1A TT n [i] = (decide (i < n) && decide ((tkA TT i).kind ≠ 1))
  | 0, i => by simp [s1A]
  | n + 1, i => by
    simp only [s1A, upd]
    by_cases h : i = n
    · subst h; simp
    · rw [if_neg (by simpa using h), s1_get TT n i]
      rw [show decide (i < n + 1) = decide (i < n) by rw [decide_eq_decide]; omega]
/-- A place stands once, behind those ahead of it. -/
theorem place_at (mk rw : Nat → Bool) (TT : List (Tok × Nat)) : ∀ n i, i < n → heardA mk TT i = true → ∃ r, dataA mk rw TT n = dataA mk rw TT i ++ ((tkA TT i).code, rw (enA TT i), i) :: r ∧ ∀ x ∈ r, i < x.2.2
  | 0, i, h, _ => by omega
  | n + 1, i, h, hh => by
    by_cases e : i = n
    · subst e
      exact ⟨[], by simp only [dataA, hh, if_true], by simp⟩
    · obtain ⟨r, h1, h2⟩ := place_at mk rw TT n i (by omega) hh
      simp only [dataA]
      split
      · refine ⟨r ++ [((tkA TT n).code, rw (enA TT n), n)], by rw [h1]; simp, fun x hx => ?_⟩
        rcases List.mem_append.1 hx with hx | hx
        · exact h2 x hx
        · simp at hx; subst hx; simp only; omega
      · exact ⟨r, h1, h2⟩
theorem heard_of (mk rw : Nat → Bool) (TT : List (Tok × Nat)) : ∀ n, ∀ x ∈ dataA mk rw TT n, heardA mk TT x.2.2 = true
  | 0, x, h => by simp [dataA] at h
  | n + 1, x, h => by
    simp only [dataA] at h
    split at h
    · rename_i hh
      rcases List.mem_append.1 h with h | h
      · exact heard_of mk rw TT n x h
      · simp at h; subst h; exact hh
    · exact heard_of mk rw TT n x h
/-- The j-th write of the second loop. -/
def wr2 (mk rw : Nat → Bool) (TT : List (Tok × Nat)) (N j : Nat) : Bool := !gnB ((dataA mk rw TT N).map fun x => UInt8.ofNat x.1) (fun is => ((dataA mk rw TT N).map fun x => x.2.1).getD (is.headD 0) false) j
theorem s2_no (mk rw : Nat → Bool) (TT : List (Tok × Nat)) (N i : Nat) : ∀ m, (∀ j, j < m → ((dataA mk rw TT N).map fun x => x.2.2).getD j 0 ≠ i) → s2A mk rw TT N m [i] = s1A TT N [i]
  | 0, _ => rfl
  | m + 1, h => by
    simp only [s2A, upd]
    rw [if_neg (fun e => h m (by omega) (by simpa using e.symm)), s2_no mk rw TT N i m (fun j hj => h j (by omega))]
theorem s2_yes (mk rw : Nat → Bool) (TT : List (Tok × Nat)) (N i q : Nat) (hq : ((dataA mk rw TT N).map fun x => x.2.2).getD q 0 = i) : ∀ k, (∀ j, q < j → j < q + 1 + k → ((dataA mk rw TT N).map fun x => x.2.2).getD j 0 ≠ i) → s2A mk rw TT N (q + 1 + k) [i] = wr2 mk rw TT N q
  | 0, _ => by
    simp only [Nat.add_zero, s2A, upd, hq, if_true]; rfl
  | k + 1, h => by
    rw [show q + 1 + (k + 1) = (q + 1 + k) + 1 by omega]
    simp only [s2A, upd]
    rw [if_neg (fun e => h (q + 1 + k) (by omega) (by omega) (by simpa using e.symm)), s2_yes mk rw TT N i q hq k (fun j h1 h2 => h j h1 (by omega))]
theorem bhL_last : ∀ (l : List (Nat × Bool × Nat)) (h : l ≠ []), bhL l = (!(l.getLast h).2.1 && (l.getLast h).1 == 13)
  | [x], _ => rfl
  | _ :: y :: r, _ => by
    rw [List.getLast_cons (by simp)]
    exact bhL_last (y :: r) (by simp)
theorem data_code (mk rw : Nat → Bool) (TT : List (Tok × Nat)) (hc : ∀ i, i < TT.length → (tkA TT i).code < 256) : ∀ n, n ≤ TT.length → ∀ x ∈ dataA mk rw TT n, x.1 < 256
  | 0, _, x, h => by simp [dataA] at h
  | n + 1, hn, x, h => by
    simp only [dataA] at h
    split at h
    · rcases List.mem_append.1 h with h | h
      · exact data_code mk rw TT hc n (by omega) x h
      · simp at h; subst h; exact hc n (by omega)
    · exact data_code mk rw TT hc n (by omega) x h
theorem stay2 (mk rw : Nat → Bool) (TT : List (Tok × Nat)) (hc : ∀ i, i < TT.length → (tkA TT i).code < 256) (i : Nat) (hi : i < TT.length) :
    s2A mk rw TT TT.length (dataA mk rw TT TT.length).length [i] = stayA mk rw TT i := by
  cases hh : heardA mk TT i with
  | false =>
    rw [s2_no, s1_get, decide_eq_true hi, Bool.true_and]
    · unfold stayA
      by_cases hk : (tkA TT i).kind = 1
      · simp [hk, hh]
      · simp [hk]
    · intro j hj e
      have hg : ((dataA mk rw TT TT.length).map fun x => x.2.2).getD j 0 = ((dataA mk rw TT TT.length)[j]).2.2 := by
        rw [List.getD_eq_getElem?_getD, List.getElem?_map, List.getElem?_eq_getElem hj]; rfl
      have := heard_of mk rw TT _ _ (List.getElem_mem hj)
      rw [← hg, e, hh] at this; cases this
  | true =>
    obtain ⟨r, h1, h2⟩ := place_at mk rw TT TT.length i hi hh
    have hk : (tkA TT i).kind = 1 := by simp only [heardA, Bool.and_eq_true, beq_iff_eq] at hh; exact hh.1
    have hlen : (dataA mk rw TT TT.length).length = (dataA mk rw TT i).length + 1 + r.length := by rw [h1]; simp; omega
    have hq : ((dataA mk rw TT TT.length).map fun x => x.2.2).getD (dataA mk rw TT i).length 0 = i := by
      rw [h1]; simp
    rw [hlen, s2_yes mk rw TT TT.length i (dataA mk rw TT i).length hq r.length (fun j a b e => by
      rw [h1, List.map_append, List.map_cons, List.getD_eq_getElem?_getD, List.getElem?_append_right (by rw [List.length_map]; omega), List.length_map] at e
      obtain ⟨w, hw⟩ : ∃ w, j - (dataA mk rw TT i).length = w + 1 := ⟨j - (dataA mk rw TT i).length - 1, by omega⟩
      rw [hw, List.getElem?_cons_succ, List.getElem?_map, List.getElem?_eq_getElem (show w < r.length by omega)] at e
      have := h2 _ (List.getElem_mem (show w < r.length by omega))
      simp at e
      omega)]
    have hci := hc i hi
    unfold stayA wr2 gnB
    rw [if_pos hk, hh, Bool.true_and]
    have sbq : sb ((dataA mk rw TT TT.length).map fun x => UInt8.ofNat x.1) (dataA mk rw TT i).length = (tkA TT i).code := by
      rw [h1]; simp [sb]; omega
    have fq : ((dataA mk rw TT TT.length).map fun x => x.2.1).getD (dataA mk rw TT i).length false = rw (enA TT i) := by
      rw [h1]; simp
    simp only [List.headD_cons, sbq, fq]
    by_cases hz : (dataA mk rw TT i).length = 0
    · have : dataA mk rw TT i = [] := List.length_eq_zero_iff.1 hz
      simp [this, bhL]
    · have hne : dataA mk rw TT i ≠ [] := fun e => hz (by rw [e]; rfl)
      have hlt : (dataA mk rw TT i).length - 1 < (dataA mk rw TT i).length := by omega
      rw [bhL_last _ hne, List.getLast_eq_getElem]
      have hmem : (dataA mk rw TT i)[(dataA mk rw TT i).length - 1].1 < 256 := data_code mk rw TT hc i (by omega) _ (List.getElem_mem hlt)
      have sbp : sb ((dataA mk rw TT TT.length).map fun x => UInt8.ofNat x.1) ((dataA mk rw TT i).length - 1) = (dataA mk rw TT i)[(dataA mk rw TT i).length - 1].1 := by
        rw [h1]; simp only [sb, List.map_append, List.getD_eq_getElem?_getD]
        rw [List.getElem?_append_left (by rw [List.length_map]; omega), List.getElem?_map, List.getElem?_eq_getElem hlt]
        simp; omega
      have fp : ((dataA mk rw TT TT.length).map fun x => x.2.1).getD ((dataA mk rw TT i).length - 1) false = (dataA mk rw TT i)[(dataA mk rw TT i).length - 1].2.1 := by
        rw [h1]; simp only [List.map_append, List.getD_eq_getElem?_getD]
        rw [List.getElem?_append_left (by rw [List.length_map]; omega), List.getElem?_map, List.getElem?_eq_getElem hlt]
        rfl
      rw [sbp, fp]
      generalize (dataA mk rw TT i)[(dataA mk rw TT i).length - 1].1 = c1
      generalize (dataA mk rw TT i)[(dataA mk rw TT i).length - 1].2.1 = b1
      generalize (tkA TT i).code = c0
      generalize rw (enA TT i) = b0
      rw [decide_eq_true (show 0 < (dataA mk rw TT i).length by omega)]
      cases b0 <;> cases b1 <;> by_cases x0 : c0 = 0 <;> by_cases x1 : c1 = 13 <;> simp [x0, x1]
theorem out3_out (mk rw : Nat → Bool) (TT : List (Tok × Nat)) (S : Ix → Bool) : ∀ n, (∀ i, i < n → S [i] = stayA mk rw TT i) → out3 TT S n = outA mk rw TT n
  | 0, _ => rfl
  | n + 1, h => by
    simp only [out3, outA]
    rw [out3_out mk rw TT S n (fun i hi => h i (by omega)), h n (by omega)]
    split <;> simp_all
def clT (s : List UInt8) (MK RW : Ix → Bool) : List Tok := (outA (mq MK) (mq RW) (toksR (s.length + 1) 0 s) (toksR (s.length + 1) 0 s).length).map Prod.fst
def clN (s : List UInt8) (MK RW : Ix → Bool) : List Nat := (outA (mq MK) (mq RW) (toksR (s.length + 1) 0 s) (toksR (s.length + 1) 0 s).length).map Prod.snd
theorem clI (s : List UInt8) (NM NR : Nat) (MK RW : Ix → Bool) (hs : s.length ≤ 200) (h1 : s.length ≤ NM) (h2 : s.length ≤ NR) : RunsTo Try.prog 8 [.code (bodyOf Try.f8)] (envOf [vS s, vL 61 1 NM, vL 62 1 NR] Try.f8.ntmps) (Sx.look ((rbE 61 NM MK ++ rbE 62 NR RW) ++ ([]))) 80 (.tup [(false, .vl 102 (fun _ => 0) 5 [] (fun _ => (((outA (mq MK) (mq RW) (toksR (s.length + 1) 0 s) (toksR (s.length + 1) 0 s).length).map Prod.fst)).length)), (false, .vl 103 (fun _ => 0) 1 [] (fun _ => (((outA (mq MK) (mq RW) (toksR (s.length + 1) 0 s) (toksR (s.length + 1) 0 s).length).map Prod.snd)).length))]) (Sx.look (dE 102 ((outA (mq MK) (mq RW) (toksR (s.length + 1) 0 s) (toksR (s.length + 1) 0 s).length).map Prod.fst) ++ nE 103 ((outA (mq MK) (mq RW) (toksR (s.length + 1) 0 s) (toksR (s.length + 1) 0 s).length).map Prod.snd))) 400 := by
  have hok := toks_ok (s.length + 1) 0 s s.length (by omega)
  have hT : (toksR (s.length + 1) 0 s).length ≤ 900 := Nat.le_trans (toks_len _ _ _) (by omega)
  have hc : ∀ i, i < (toksR (s.length + 1) 0 s).length → (tkA (toksR (s.length + 1) 0 s) i).code < 256 := fun i hi => (okT_at _ 0 hok i hi).2.2
  have he : outA (mq MK) (mq RW) (toksR (s.length + 1) 0 s) (toksR (s.length + 1) 0 s).length = out3 (toksR (s.length + 1) 0 s) (s2A (mq MK) (mq RW) (toksR (s.length + 1) 0 s) (toksR (s.length + 1) 0 s).length (dataA (mq MK) (mq RW) (toksR (s.length + 1) 0 s) (toksR (s.length + 1) 0 s).length).length) (toksR (s.length + 1) 0 s).length :=
    (out3_out (mq MK) (mq RW) _ _ _ (fun i hi => stay2 (mq MK) (mq RW) _ hc i hi)).symm
  rw [he]
  have dl := dataA_len (mq MK) (mq RW) (toksR (s.length + 1) 0 s) (toksR (s.length + 1) 0 s).length
  refine c0 NM NR _ _ s hs _ _ ?_
  refine c0L NM NR MK RW (toksR (s.length + 1) 0 s) _ _ s.length hok h1 h2 (by omega) hT ?_ (toksR (s.length + 1) 0 s).length 0 (by omega)
  refine c2 NM NR _ _ _ _ _ _ _ _ _ _ _ (by simp) (by rw [List.length_map]; omega) (by rw [List.length_map]; omega) _ _ ?_
  refine c2L NM NR MK RW (toksR (s.length + 1) 0 s) _ _ hT ?_ (dataA (mq MK) (mq RW) (toksR (s.length + 1) 0 s) (toksR (s.length + 1) 0 s).length).length 0 (by omega)
  refine c3 NM NR _ _ _ _ _ _ _ _ _ 0 (by simp) (by rw [List.length_map]; omega) (by rw [List.length_map]; omega) _ _ ?_
  exact c3L NM NR MK RW (toksR (s.length + 1) 0 s) _ hT (toksR (s.length + 1) 0 s).length 0 (by omega)
def clP : PC := { args := [.v (.vs 0), .v (.vl 61 1 1), .v (.vl 62 1 3)], heap := [⟨61, false, 1, .ta 1 (.vb 2)⟩, ⟨62, false, 1, .ta 3 (.vb 4)⟩], gs := [], G := 0, tp := 999, n := 80, n' := 400, cond := fun e => decide ((eS e 0 []).length ≤ 200 ∧ (eS e 0 []).length ≤ eN e 1 ∧ (eS e 0 []).length ≤ eN e 3), v := fun e => .tup [(false, .vl 102 (fun _ => 0) 5 [] (fun _ => ((clT (eS e 0 []) (eB e 2) (eB e 4))).length)), (false, .vl 103 (fun _ => 0) 1 [] (fun _ => ((clN (eS e 0 []) (eB e 2) (eB e 4))).length))], post := fun e => dE 102 (clT (eS e 0 []) (eB e 2) (eB e 4)) ++ nE 103 (clN (eS e 0 []) (eB e 2) (eB e 4)) }
theorem clP_pc : PC.Runs Try.prog 8 Try.f8 (bodyOf Try.f8) clP := ⟨Try.func8, by kernel_rfl, (fun g hg => by first | (cases hg; done) | (revert g; show ∀ g ∈ ([] : List Nat), g < 0; decide)), fun e H hc => by
  have hc : (decide ((eS e 0 []).length ≤ 200 ∧ (eS e 0 []).length ≤ eN e 1 ∧ (eS e 0 []).length ≤ eN e 3)) = true := hc
  try simp only [Bool.and_eq_true, decide_eq_true_eq, Nat.beq_eq] at hc
  exact clI (eS e 0 []) (eN e 1) (eN e 3) (eB e 2) (eB e 4) hc.1 hc.2.1 hc.2.2⟩
end Go.Proofs.Ytcphocfnhekdaaa

