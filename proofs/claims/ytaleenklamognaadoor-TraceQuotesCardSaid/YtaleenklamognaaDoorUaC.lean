/- Scripts by name. -/
import Derived.Test.YtaleenklamognaaDoorSyCp
import Derived.Test.YtaleenklamognaaDoorRows
import Derived.Test.YtaleenklamognaaDoorSyX
import Derived.WalkKit
import Derived.LaidEql
import Derived.Stop.Asserts
import Derived.RowKitTokens
import Derived.Test.YtaleenklamognaaDoorSyKit
import Derived.Test.YtaleenklamognaaDoorSyBd
import Derived.Test.YtaleenklamognaaDoorProg
import Derived.Test.YtaleenklamognaaDoorSyPc
import Derived.Test.YtaleenklamognaaDoorSyPl
set_option linter.unusedVariables false
namespace Go.Sx
theorem sc1 {P : Prop} (h : P := by first | (show _ ∧ _; (refine ⟨?_, trivial⟩); (first | (simp_all [ltrI]; done) | (rw [Bool.eq_iff_iff]; simp only [ltrI, decide_eq_true_eq, decide_eq_false_iff_not, beq_iff_eq, beq_eq_false_iff_ne, bne_iff_ne, ne_eq, iff_true, true_iff, iff_false, false_iff, ge_iff_le] at *; omega) | (simp only [ltrI, decide_eq_true_eq, decide_eq_false_iff_not, ge_iff_le] at *; omega) | (rw [Bool.eq_iff_iff]; simp [ltrI]; done))) | (((try simp (disch := omega) only [SS]); first | done | omega | assumption | (simp (disch := omega) only [SS] at *; first | done | omega | assumption) | (simp_all; done)))) : P := h
theorem sc2 {P : Prop} (h : P := by first | (show _ ∧ _; (refine ⟨?_, trivial⟩); (first | (simp_all [figI]; done) | (rw [Bool.eq_iff_iff]; simp only [figI, decide_eq_true_eq, decide_eq_false_iff_not, beq_iff_eq, beq_eq_false_iff_ne, bne_iff_ne, ne_eq, iff_true, true_iff, iff_false, false_iff, ge_iff_le] at *; omega) | (simp only [figI, decide_eq_true_eq, decide_eq_false_iff_not, ge_iff_le] at *; omega) | (rw [Bool.eq_iff_iff]; simp [figI]; done))) | (((try simp (disch := omega) only [SS]); first | done | omega | assumption | (simp (disch := omega) only [SS] at *; first | done | omega | assumption) | (simp_all; done)))) : P := h
theorem sc3 {P : Prop} (h : P := by first | (show _ ∧ _; (refine ⟨?_, trivial⟩); (first | (simp_all [goI]; done) | (rw [Bool.eq_iff_iff]; simp only [goI, decide_eq_true_eq, decide_eq_false_iff_not, beq_iff_eq, beq_eq_false_iff_ne, bne_iff_ne, ne_eq, iff_true, true_iff, iff_false, false_iff, ge_iff_le] at *; omega) | (simp only [goI, decide_eq_true_eq, decide_eq_false_iff_not, ge_iff_le] at *; omega) | (rw [Bool.eq_iff_iff]; simp [goI]; done))) | (((try simp (disch := omega) only [SS]); first | done | omega | assumption | (simp (disch := omega) only [SS] at *; first | done | omega | assumption) | (simp_all; done)))) : P := h
theorem sc4 {P : Prop} (h : P := by first | (show _ ∧ _; (refine ⟨?_, trivial⟩); (first | (simp_all [blI]; done) | (rw [Bool.eq_iff_iff]; simp only [blI, decide_eq_true_eq, decide_eq_false_iff_not, beq_iff_eq, beq_eq_false_iff_ne, bne_iff_ne, ne_eq, iff_true, true_iff, iff_false, false_iff, ge_iff_le] at *; omega) | (simp only [blI, decide_eq_true_eq, decide_eq_false_iff_not, ge_iff_le] at *; omega) | (rw [Bool.eq_iff_iff]; simp [blI]; done))) | (((try simp (disch := omega) only [SS]); first | done | omega | assumption | (simp (disch := omega) only [SS] at *; first | done | omega | assumption) | (simp_all; done)))) : P := h
theorem sc5 {P : Prop} (h : P := by first | (show _ ∧ _; (refine ⟨?_, trivial⟩); (first | (simp_all [nlI]; done) | (rw [Bool.eq_iff_iff]; simp only [nlI, decide_eq_true_eq, decide_eq_false_iff_not, beq_iff_eq, beq_eq_false_iff_ne, bne_iff_ne, ne_eq, iff_true, true_iff, iff_false, false_iff, ge_iff_le] at *; omega) | (simp only [nlI, decide_eq_true_eq, decide_eq_false_iff_not, ge_iff_le] at *; omega) | (rw [Bool.eq_iff_iff]; simp [nlI]; done))) | (((try simp (disch := omega) only [SS]); first | done | omega | assumption | (simp (disch := omega) only [SS] at *; first | done | omega | assumption) | (simp_all; done)))) : P := h
theorem sc6 {P : Prop} (h : P := by first | (show _ ∧ _; (try simp (disch := omega) only [SS]); (repeat' apply And.intro); (all_goals first | exact True.intro | with_reducible rfl | omega | (intros; first | exact True.intro | with_reducible rfl | omega | (simp_all; done)) | (simp_all; done) | rfl)) | (((try simp (disch := omega) only [SS]); first | done | omega | assumption | (simp (disch := omega) only [SS] at *; first | done | omega | assumption) | (simp_all; done)))) : P := h
theorem sc7 {P : Prop} (h : P := by first | (show _ ∧ _; (try simp (disch := omega) only [SS, E']); (repeat' apply And.intro); (all_goals first | exact True.intro | with_reducible rfl | omega | (intros; first | exact True.intro | with_reducible rfl | omega | (clear E'; simp_all; done)) | (clear E'; simp_all; done) | rfl)) | (((try simp (disch := omega) only [SS, E']); first | done | omega | assumption | (simp (disch := omega) only [SS, E'] at *; first | done | omega | assumption) | (clear E'; simp_all; done)))) : P := h
theorem sc8 {P : Prop} (h : P := by first | (show _ ∧ _; (try simp (disch := omega) only [SS, E']); (repeat' apply And.intro); (all_goals first | exact True.intro | with_reducible rfl | omega | (intros; first | exact True.intro | with_reducible rfl | omega | (clear E'; simp_all; done)) | (clear E'; simp_all; done) | rfl)) | (first | omega | (simp (disch := omega) only [SS, E']; first | done | omega) | (simp (disch := omega) only [SS, E'] at *; first | done | omega | (have := h (by omega); omega)) | (clear E'; simp_all; done) | (clear E'; simp_all; omega))) : P := h
theorem sc9 {P : Prop} (h : P := by first | (show _ ∧ _; (try simp (disch := omega) only [SS, E']); (repeat' apply And.intro); (all_goals first | exact True.intro | with_reducible rfl | omega | (intros; first | exact True.intro | with_reducible rfl | omega | (clear E'; simp_all; done)) | (clear E'; simp_all; done) | rfl)) | (first | omega | (simp (disch := omega) only [SS, E']; first | done | omega) | (simp (disch := omega) only [SS, E'] at *; first | done | omega | (have := h2 (by omega); omega)) | (clear E'; simp_all; done) | (clear E'; simp_all; omega))) : P := h
theorem sc10 {P : Prop} (h : P := by first | (show _ ∧ _; (try simp (disch := omega) only [SS, E']); (repeat' apply And.intro); (all_goals first | exact True.intro | with_reducible rfl | omega | (intros; first | exact True.intro | with_reducible rfl | omega | (clear E'; simp_all; done)) | (clear E'; simp_all; done) | rfl)) | (first | omega | (simp (disch := omega) only [SS, E']; first | done | omega) | (clear E'; simp_all; done) | (clear E'; simp_all; omega))) : P := h
theorem sc11 {P : Prop} (h : P := by first | (show _ ∧ _; (try simp only [SS]); (repeat' apply And.intro); (all_goals first | exact True.intro | with_reducible rfl | (simp only [decide_eq_true_eq, decide_eq_false_iff_not] at *; first | exact (dig_a (by omega)).symm | exact dig_a (by omega) | exact (dig_b h0 (by omega)).symm | exact dig_b h0 (by omega)))) | (((try simp (disch := omega) only [SS]); first | done | omega | assumption | (simp (disch := omega) only [SS] at *; first | done | omega | assumption) | (simp_all; done)))) : P := h
theorem sc12 {P : Prop} (h : P := by first | (show _ ∧ _; (try simp (disch := omega) only [SS, E']); (repeat' apply And.intro); (all_goals first | exact True.intro | with_reducible rfl | omega | exact (hex2 ⟨x1, hexI_lt _⟩ ⟨x2, hexI_lt _⟩).symm | exact hex2 ⟨x1, hexI_lt _⟩ ⟨x2, hexI_lt _⟩ | (clear E'; simp_all; done))) | (first | omega | (simp (disch := omega) only [SS, E']; first | done | omega) | (clear E'; simp_all; done) | (clear E'; simp_all; omega))) : P := h
theorem sc13 {P : Prop} (h : P := by first | (show _ ∧ _; (try simp (disch := omega) only [SS, E']); (repeat' apply And.intro); (all_goals first | exact True.intro | with_reducible rfl | omega | (simp [bytesOf, upd]; done) | (clear E'; simp_all [bytesOf, upd]; done))) | (first | omega | (simp (disch := omega) only [SS, E']; first | done | omega) | (clear E'; simp_all; done) | (clear E'; simp_all; omega))) : P := h
theorem sc14 {P : Prop} (h : P := by first | (show _ ∧ _; (have hnew : pcsOf n V L = [] ∨ ((pcsOf n V L).getD ((pcsOf n V L).length - 1) zP).var ≠ [] := .inl (by rw [h]; rfl)); (have hlq : Q.length = n + 1 := by rw [hQ, litP_new _ c hnew, List.length_append, hpl]; rfl); (have hap := pr_app (pcsOf n V L) n V L (fun _ => []) (fun _ => bytesOf (fun is => (c.toNat : Int)) [] 0 1) rfl ⟨[], [c]⟩ rfl hb1); (rw [← litP_new _ c hnew, ← hQ] at hap); (exact ⟨⟨rfl, hlq⟩, hlq, fun k hk => (hap k (by omega)).1, fun k hk => (hap k (by omega)).2⟩)) | (first | omega | (simp (disch := omega) only [SS, E']; first | done | omega | (clear E'; simp_all; done)) | (clear E'; simp_all; done) | (clear E'; simp_all; omega))) : P := h
theorem sc15 {P : Prop} (h : P := by first | (show _ ∧ _; (have hnew : pcsOf n V L = [] ∨ ((pcsOf n V L).getD ((pcsOf n V L).length - 1) zP).var ≠ [] := .inr (by rw [hpl, pcsOf_at V L (by omega)]; exact h2)); (have hlq : Q.length = n + 1 := by rw [hQ, litP_new _ c hnew, List.length_append, hpl]; rfl); (have hap := pr_app (pcsOf n V L) n V L (fun _ => []) (fun _ => bytesOf (fun is => (c.toNat : Int)) [] 0 1) rfl ⟨[], [c]⟩ rfl hb1); (rw [← litP_new _ c hnew, ← hQ] at hap); (exact ⟨⟨rfl, hlq⟩, hlq, fun k hk => (hap k (by omega)).1, fun k hk => (hap k (by omega)).2⟩)) | (first | omega | (simp (disch := omega) only [SS, E']; first | done | omega | (clear E'; simp_all; done)) | (clear E'; simp_all; done) | (clear E'; simp_all; omega))) : P := h
theorem sc16 {P : Prop} (h : P := by first | (show _ ∧ _; (have hset := pr_set (pcsOf n V L) n V L rfl h h2 c); (rw [← hQ] at hset); (have hlq : Q.length = n := by rw [hQ, litP_len, hpl, if_pos ⟨fun e => by rw [e] at hpl; simp at hpl; omega, by rw [pcsOf_at V L (by omega)]; exact h2⟩]); (rw [hw1, hn1, hb1, Nat.zero_add]); (exact ⟨⟨rfl, hlq⟩, by omega, fun k hk => (hset k (by omega)).1, fun k hk => (hset k (by omega)).2⟩)) | (first | omega | (simp (disch := omega) only [SS, E', Nat.zero_add, List.length_append, List.length_cons, List.length_nil]; first | done | omega | (clear E'; simp_all; done)) | (clear E'; simp_all; done) | (clear E'; simp_all; omega))) : P := h
theorem sc17 {P : Prop} (h : P := by first | (show _ ∧ _; (refine ⟨?_, trivial⟩); (rw [fits_ix]); (first | (simp_all; done) | (rw [Bool.eq_iff_iff]; simp at *; omega) | (simp_all; omega))) | (first | omega | (simp (disch := omega) only [SS]; first | done | omega) | (simp_all; done) | (simp_all; omega))) : P := h
theorem sc18 {P : Prop} (h : P := by first | (show _ ∧ _; (try simp (disch := omega) only [SS, E']); (repeat' apply And.intro); (all_goals first | exact True.intro | with_reducible rfl | omega | (intros; first | exact True.intro | with_reducible rfl | omega | (clear E'; simp_all; done)) | (clear E'; simp_all; done) | rfl)) | (first | omega | exact hA | (simp (disch := omega) only [SS, E']; first | done | omega | exact ⟨by omega, hA⟩ | exact ⟨rfl, by omega, hA⟩ | exact ⟨by omega, rfl, by omega, hA⟩ | exact ⟨hb0, rfl, by omega, hA⟩ | exact ⟨⟨by omega, by omega⟩, rfl, by omega, hA⟩ | exact hA) | (clear E'; simp_all; done) | (clear E'; simp_all; omega))) : P := h
theorem sc19 {P : Prop} (h : P := by first | (show _ ∧ _; (try simp (disch := omega) only [SS, E', Go.Sx.sum, Nat.zero_add]); (repeat' apply And.intro); (all_goals first | exact True.intro | with_reducible rfl | omega | (intros; first | exact True.intro | with_reducible rfl | (clear E'; simp_all; done)) | (clear E'; simp_all; done))) | (first | omega | exact hA | (simp (disch := omega) only [SS, E']; first | done | omega | exact ⟨by omega, hA⟩ | exact ⟨rfl, by omega, hA⟩ | exact ⟨by omega, rfl, by omega, hA⟩ | exact ⟨hb0, rfl, by omega, hA⟩ | exact ⟨⟨by omega, by omega⟩, rfl, by omega, hA⟩ | exact hA) | (clear E'; simp_all; done) | (clear E'; simp_all; omega))) : P := h
theorem sc20 {P : Prop} (h : P := by first | (show _ ∧ _; (try simp (disch := omega) only [SS, E', Go.Sx.sum, Nat.zero_add, List.length_append, List.length_cons, List.length_nil]); (repeat' apply And.intro); (all_goals first | exact True.intro | with_reducible rfl | omega | (intro k hk; exact (hap k (by omega)).1) | (intro k hk; exact (hap k (by omega)).2) | (intros; first | exact True.intro | with_reducible rfl | (clear E'; simp_all; done)) | (clear E'; simp_all; done))) | (first | omega | exact hA | (simp (disch := omega) only [SS, E']; first | done | omega | exact ⟨by omega, hA⟩ | exact ⟨rfl, by omega, hA⟩ | exact ⟨by omega, rfl, by omega, hA⟩ | exact ⟨hb0, rfl, by omega, hA⟩ | exact ⟨⟨by omega, by omega⟩, rfl, by omega, hA⟩ | exact hA) | (clear E'; simp_all; done) | (clear E'; simp_all; omega))) : P := h
theorem sc21 {P : Prop} (h : P := by first | (show _ ∧ _; (try simp (disch := omega) only [SS, E', Go.Sx.sum, Nat.zero_add, List.length_append, List.length_cons, List.length_nil]); (repeat' apply And.intro); (all_goals first | exact True.intro | with_reducible rfl | omega | (intros; first | exact True.intro | with_reducible rfl | (clear E'; simp_all; done)) | (clear E'; simp_all; done))) | (first | omega | exact hA | (simp (disch := omega) only [SS, E']; first | done | omega | exact ⟨by omega, hA⟩ | exact ⟨rfl, by omega, hA⟩ | exact ⟨by omega, rfl, by omega, hA⟩ | exact ⟨hb0, rfl, by omega, hA⟩ | exact ⟨⟨by omega, by omega⟩, rfl, by omega, hA⟩ | exact hA) | (clear E'; simp_all; done) | (clear E'; simp_all; omega))) : P := h
theorem sc22 {P : Prop} (h : P := by first | (show _ ∧ _; (try simp (disch := omega) only [SS, E']); (repeat' apply And.intro); (all_goals first | exact True.intro | with_reducible rfl | omega | (intros; first | exact True.intro | with_reducible rfl | omega | (clear E'; simp_all; done)) | (clear E'; simp_all; done) | rfl)) | (first | omega | (simp (disch := omega) only [SS, E']; first | done | omega | assumption) | (simp (disch := omega) only [SS, E'] at *; first | done | omega | assumption | exact hg (by omega) | (simp [hg (by omega)]; done)) | (clear E'; simp_all; done) | (clear E'; simp_all; omega))) : P := h
theorem sc23 {P : Prop} (h : P := by first | (show _ ∧ _; (try simp (disch := omega) only [SS, E']); (repeat' apply And.intro); (all_goals first | exact True.intro | with_reducible rfl | omega | (intros; first | exact True.intro | with_reducible rfl | omega | (clear E'; simp_all; done)) | (clear E'; simp_all; done) | rfl)) | (first | omega | (simp (disch := omega) only [SS, E']; first | done | omega | assumption) | (simp (disch := omega) only [SS, E'] at *; first | done | omega | assumption | exact hg) | (clear E'; simp_all; done) | (clear E'; simp_all; omega))) : P := h
theorem sc24 {P : Prop} (h : P := by first | (show _ ∧ _; (try simp (disch := omega) only [SS, E', Nat.zero_add]); (repeat' apply And.intro); (all_goals first | exact True.intro | with_reducible rfl | omega | (intros; first | exact True.intro | with_reducible rfl | omega | (clear E'; simp_all; done)) | (clear E'; simp_all; done) | rfl)) | (((try simp (disch := omega) only [SS, E', Nat.zero_add]); first | done | omega | assumption | (simp (disch := omega) only [SS, E', Nat.zero_add] at *; first | done | omega | assumption) | (clear E'; simp_all; done)))) : P := h
theorem sc25 {P : Prop} (h : P := by first | (show _ ∧ _; (try simp (disch := omega) only [SS, E', List.take_length, List.drop_zero, ht2']); (repeat' apply And.intro); (all_goals first | exact True.intro | with_reducible rfl | omega | (intros; first | exact True.intro | with_reducible rfl | omega | (clear E'; simp_all; done)) | (clear E'; simp_all; done) | rfl)) | (first | omega | (simp (disch := omega) only [SS, E', List.take_length, List.drop_zero, ht2']; first | done | omega | rfl | decide | (simp; omega) | (clear E'; simp_all; done)) | (simp (disch := omega) only [SS, E', List.take_length, List.drop_zero, ht2'] at *; first | done | omega | rfl | decide | (rw [ht2 (by omega)]; simp; done) | (rw [ht2 (by omega)]; clear E'; simp_all; done) | (rw [ht2' (by omega)]; simp; done) | (rw [ht2' (by omega)]; have := h3 (by omega); clear E'; simp_all; done) | (rw [ht2 (by omega)]; have := n5 (by omega); clear E'; simp_all; done) | (clear E'; simp_all; done)))) : P := h
theorem sc26 {P : Prop} (h : P := by first | (show _ ∧ _; (try simp (disch := omega) only [SS, E', List.take_length, List.drop_zero]); (repeat' apply And.intro); (all_goals first | exact True.intro | with_reducible rfl | omega | (intros; first | exact True.intro | with_reducible rfl | omega | (clear E'; simp_all; done)) | (clear E'; simp_all; done) | rfl)) | (first | omega | (simp (disch := omega) only [SS, E', List.take_length, List.drop_zero]; first | done | omega | rfl | decide | (simp; omega) | (clear E'; simp_all; done)) | (simp (disch := omega) only [SS, E', List.take_length, List.drop_zero] at *; first | done | omega | rfl | decide | (rw [ht2 (by omega)]; simp; done) | (rw [ht2 (by omega)]; clear E'; simp_all; done) | (rw [ht2' (by omega)]; simp; done) | (rw [ht2' (by omega)]; have := h3 (by omega); clear E'; simp_all; done) | (rw [ht2 (by omega)]; have := n5 (by omega); clear E'; simp_all; done) | (clear E'; simp_all; done)))) : P := h
theorem sc27 {P : Prop} (h : P := by first | (show _ ∧ _; (try simp (disch := omega) only [SS, E']); (repeat' apply And.intro); (all_goals first | exact True.intro | with_reducible rfl | omega | (intros; first | exact True.intro | (clear E'; simp_all; done) | omega) | rfl | (clear E'; simp_all; done))) | (first | omega | (simp (disch := omega) only [SS, E']; first | done | omega | assumption | exact ⟨by omega, by omega, by omega, h⟩ | exact ⟨by omega, by omega, h⟩ | exact ⟨by omega, h⟩ | exact h | exact ⟨by omega, by omega, by omega, h5⟩ | exact ⟨by omega, by omega, h5⟩ | (clear E'; simp_all; done)) | (clear E'; simp_all; done) | (clear E'; simp_all; omega))) : P := h
theorem sc28 {P : Prop} (h : P := by first | (show _ ∧ _; (try simp (disch := omega) only [SS, E', List.drop_zero, Nat.zero_add]); (repeat' apply And.intro); (all_goals first | exact True.intro | with_reducible rfl | omega | (intros; first | exact True.intro | with_reducible rfl | omega | (clear E'; simp_all; done)) | (clear E'; simp_all; done) | rfl)) | (((try simp (disch := omega) only [SS, E', List.drop_zero, Nat.zero_add]); first | done | omega | assumption | (simp (disch := omega) only [SS, E', List.drop_zero, Nat.zero_add] at *; first | done | omega | assumption) | (clear E'; simp_all; done)))) : P := h
theorem sc29 {P : Prop} (h : P := by first | (show _ ∧ _; (try simp (disch := omega) only [SS, E', Go.Sx.sum, List.length_append, List.length_cons, List.length_nil, Nat.zero_add]); (repeat' apply And.intro); (all_goals first | exact True.intro | with_reducible rfl | omega | exact wK_app T _ _ rfl | exact wX_app T _ _ rfl | exact wN_app T _ _ rfl | exact wP_app T _ _ rfl | exact wL_app T _ _ rfl | exact wM_app T _ _ _ (fun k hk => rfl) rfl | exact gpL_cons T _ _ rfl | (intro m hm; exact ⟨gpL_cons T _ _ rfl m hm, fun j hj => gpV_cons T _ _ m hm j (fun j hj => by first | rfl | (simp [subIx, prV]; done)) hj⟩) | (intro m hm; exact ⟨gpL_cons T _ _ rfl m hm, fun j hj => gpT_cons T _ _ m hm j (fun j hj => by first | rfl | (simp [subIx, prL]; done)) hj⟩) | (intro m hm; refine ⟨gpL_cons T _ _ rfl m hm, fun j hj => gpV_cons T _ _ m hm j (fun j hj => by first | rfl | (simp [subIx, prV]; done)) hj, fun j hj => gpT_cons T _ _ m hm j (fun j hj => by first | rfl | (simp [subIx, prL]; done)) hj⟩) | (intro m hm j hj; exact gpV_cons T _ _ m hm j (fun j hj => by first | rfl | (simp [subIx, prV]; done)) hj) | (intro m hm j hj; exact gpT_cons T _ _ m hm j (fun j hj => by first | rfl | (simp [subIx, prL]; done)) hj) | (clear E'; simp_all; done))) | (first | omega | (simp (disch := omega) only [SS, E']; first | done | omega | assumption | exact ⟨by omega, by omega, h1⟩ | exact ⟨by omega, by omega, by omega, h1⟩ | exact h1 | (clear E'; simp_all; done)) | (clear E'; simp_all; done) | (clear E'; simp_all; omega))) : P := h
theorem sc30 {P : Prop} (h : P := by first | (show _ ∧ _; (try simp (disch := omega) only [SS, E']); (repeat' apply And.intro); (all_goals first | exact True.intro | with_reducible rfl | omega | (intros; first | exact True.intro | with_reducible rfl | omega | (clear E'; simp_all; done)) | (clear E'; simp_all; done) | rfl)) | (first | omega | (simp (disch := omega) only [SS, E']; first | done | omega | assumption | exact ⟨by omega, by omega, h1⟩ | exact ⟨by omega, by omega, by omega, h1⟩ | exact h1 | (clear E'; simp_all; done)) | (clear E'; simp_all; done) | (clear E'; simp_all; omega))) : P := h
theorem sc31 {P : Prop} (h : P := by first | (show _ ∧ _; (refine ⟨?_, trivial⟩); (first | (simp_all; done) | (simp at *; omega) | (rw [Bool.eq_iff_iff]; simp at *; omega) | (simp_all; omega))) | (((try simp (disch := omega) only [SS]); first | done | omega | assumption | (simp (disch := omega) only [SS] at *; first | done | omega | assumption) | (simp_all; done)))) : P := h
theorem sc32 {P : Prop} (h : P := by first | (show _ ∧ _; (refine ⟨?_, trivial⟩); (first | rfl | (simp_all; done) | (simp_all [bytesOf, upd, List.range_succ]; done))) | (first | omega | (simp (disch := omega) only [SS]; first | done | omega) | (simp_all; done) | (simp_all; omega) | (simp at *; omega))) : P := h
theorem sc33 {P : Prop} (h : P := by first | (show _ ∧ _; (refine ⟨?_, trivial⟩); (rw [h4, h5]); (simp [bytesOf, upd, List.range_succ, hexS])) | (first | omega | (simp (disch := omega) only [SS, E']; first | done | omega) | (clear E'; simp_all; done) | (clear E'; simp_all; omega) | (simp at *; omega))) : P := h
theorem sc34 {P : Prop} (h : P := by first | (show _ ∧ _; (try simp (disch := omega) only [SS, E']); (repeat' apply And.intro); (all_goals first | exact True.intro | with_reducible rfl | omega | (intros; first | exact True.intro | with_reducible rfl | omega | (clear E'; simp_all; done)) | (clear E'; simp_all; done) | rfl)) | (first | omega | (simp (disch := omega) only [SS, E']; first | done | omega | assumption) | (clear E'; simp_all; done) | (clear E'; simp_all; omega) | (simp at *; omega))) : P := h
theorem sc35 {P : Prop} (h : P := by first | (show _ ∧ _; (try simp (disch := omega) only [SS]); (repeat' apply And.intro); (all_goals first | exact True.intro | with_reducible rfl | omega | (intros; first | exact True.intro | with_reducible rfl | omega | (simp_all; done)) | (simp_all; done) | rfl)) | (first | omega | (simp (disch := omega) only [SS]; first | done | omega | assumption) | (simp_all; done) | (simp_all; omega))) : P := h
theorem sc36 {P : Prop} (h : P := by first | (show _ ∧ _; (try simp (disch := omega) only [SS]); (repeat' apply And.intro); (all_goals first | exact True.intro | with_reducible rfl | omega | (intro k hk; obtain rfl : k = 0 := (by simp at hk; omega); rfl) | (simp_all; done) | rfl)) | (((try simp (disch := omega) only [SS]); first | done | omega | assumption | (simp (disch := omega) only [SS] at *; first | done | omega | assumption) | (simp_all; done)))) : P := h
theorem sc37 {P : Prop} (h : P := by first | (show _ ∧ _; (try simp (disch := omega) only [SS, E', Go.Sx.sum, List.length_append, List.length_cons, List.length_nil, Nat.zero_add]); (repeat' apply And.intro); (all_goals first | exact True.intro | with_reducible rfl | omega | (intro k hk; exact hap k (by simpa using hk)) | (intros; first | omega | (clear E'; simp_all; done)) | (clear E'; simp_all; done) | rfl)) | (((try simp (disch := omega) only [SS, E']); first | done | omega | assumption | (simp (disch := omega) only [SS, E'] at *; first | done | omega | assumption) | (clear E'; simp_all; done)))) : P := h
theorem sc38 {P : Prop} (h : P := by first | (show _ ∧ _; (refine ⟨?_, trivial⟩); (exact (bytes_is (by simp) (fun j hj => (hap j (by simpa using hj)).symm)).symm)) | (((try simp (disch := omega) only [SS]); first | done | omega | assumption | (simp (disch := omega) only [SS] at *; first | done | omega | assumption) | (simp_all; done)))) : P := h
theorem sc39 {P : Prop} (h : P := by first | (show _ ∧ _; (try simp (disch := omega) only [SS]); (repeat' apply And.intro); (all_goals first | exact True.intro | with_reducible rfl | omega | (intros; first | exact True.intro | with_reducible rfl | omega | (simp_all; done)) | (simp_all; done) | rfl)) | (first | rfl | decide | (decide +kernel))) : P := h
theorem sc40 {P : Prop} (h : P := by first | (show _ ∧ _; (try simp (disch := omega) only [SS, E']); (repeat' apply And.intro); (all_goals first | exact True.intro | with_reducible rfl | omega | (intros; first | exact True.intro | with_reducible rfl | omega | (clear E'; simp_all; done)) | (clear E'; simp_all; done) | rfl)) | (first | omega | rfl | assumption | (simp (disch := omega) only [SS, E']; first | done | omega | assumption | rfl) | (simp (disch := omega) only [SS, E'] at *; first | done | omega | assumption | rfl | (clear E'; simp_all; done)) | (clear E'; simp_all; done) | (clear E'; simp_all; omega))) : P := h

end Go.Sx

set_option linter.unusedSimpArgs false
set_option linter.unusedVariables false
set_option maxRecDepth 100000
namespace Go.Proofs.YtaleenklamognaaDoor
open Go.RowKit Go.Extern.Stop Go.Stop Go.Extern

/-! ### CLOSED FACTS: what 'reflectlite.TypeOf(target).Comparable()' gives at such a target -/
theorem es_isTypeOf (v : Value) (w : World) : (Extern.ReflectliteType.typeOf #[.iface 213 v]).run Tryd.prog w = .ok (.iface 164 (.agg #[.pointer (some ⟨23, 213, none⟩)])) w := by kernel_rfl
theorem es_isComparable (w : World) : ((Extern.ReflectliteType.method fun t => do Rtype.noPackHeld "Comparable" t; (fun a => Value.bool a.comparable) <$> typeInfo t) #[.agg #[.pointer (some ⟨23, 213, none⟩)]]).run Tryd.prog w = .ok (.bool true) w := by kernel_rfl
theorem es_isMethodComparable (v : Value) (w : World) : (Go.method 361 164 v "Comparable").run Tryd.prog w = .ok (202, v) w := by kernel_rfl
theorem es_isComp : (Tryd.prog.info? 213).map (·.comparable) = some true := by kernel_rfl
theorem es_isSize : (Tryd.prog.info? 215).map (·.size) = some 1 := by kernel_rfl

/-! ### CLOSED FACTS ON THE METHOD SETS: what errors.is's assertions find -/
theorem es_noIsE (v : Value) (xT : TypeId) (w : World) : (Instr.typeAssert (.iface 213 v) xT 166 true).run Tryd.prog w = .ok (.tuple #[.nilIface, .bool false]) w := run_typeAssert_lacksB Tryd.underlying166 (by kernel_rfl) (by kernel_rfl) v xT w
theorem es_noUnwrapE (v : Value) (xT : TypeId) (w : World) : (Instr.typeAssert (.iface 213 v) xT 169 true).run Tryd.prog w = .ok (.tuple #[.nilIface, .bool false]) w := run_typeAssert_lacksB Tryd.underlying169 (by kernel_rfl) (by kernel_rfl) v xT w
theorem es_noUnwrapsE (v : Value) (xT : TypeId) (w : World) : (Instr.typeAssert (.iface 213 v) xT 171 true).run Tryd.prog w = .ok (.tuple #[.nilIface, .bool false]) w := run_typeAssert_lacksB Tryd.underlying171 (by kernel_rfl) (by kernel_rfl) v xT w

/-- errors.Is(x, x), x a pointer to an errors.errorString. -/
theorem is_same (a : Addr) (w : World) :
    Calls Tryd.prog 59 #[.iface 213 (.pointer (some a)), .iface 213 (.pointer (some a))] w fun e w' => e = .returned (.bool true) ∧ w' = w := by
  obtain ⟨i, hi, hcmp⟩ := Option.map_eq_some_iff.1 es_isComp
  obtain ⟨j, hj, hjs⟩ := Option.map_eq_some_iff.1 es_isSize
  have h8 := @run_callFunc_extern Tryd.prog 96 _ Extern.ReflectliteType.typeOf Tryd.func96 (by kernel_rfl) (by kernel_rfl) (by kernel_rfl) (by kernel_rfl)
  have h32 := @run_callFunc_extern Tryd.prog 202 _ (Extern.ReflectliteType.method fun t => do Rtype.noPackHeld "Comparable" t; pure (.bool (← typeInfo t).comparable)) Tryd.func202 (by kernel_rfl) (by kernel_rfl) (by kernel_rfl) (by kernel_rfl)
  have tT := es_isTypeOf
  have cT := es_isComparable
  have mR := es_isMethodComparable
  have heq := run_eql_iface_ptr_same (P := Tryd.prog) w a Tryd.underlying25 Tryd.underlying213 hi hcmp hj
  go_enter Tryd.func59, Tryd.ntmps59
  go_wp2
  refine wp_loop_rounds 1 ?_
  rw [rounds_succ]
  go_wp2
  go_ret
  exact ⟨rfl, rfl⟩

/-- errors.Is(x, y), two different pointers to errors.errorString: neither has Is nor Unwrap: false. -/
theorem is_other (a b : Addr) (ca cb : Array Value) (ta tb : TypeId) (w : World) (hne : a ≠ b) (ha : w.heap[a.block]? = some (.cells ca ta (0, 0))) (hb : w.heap[b.block]? = some (.cells cb tb (0, 0))) :
    Calls Tryd.prog 59 #[.iface 213 (.pointer (some a)), .iface 213 (.pointer (some b))] w fun e w' => e = .returned (.bool false) ∧ w' = w := by
  obtain ⟨i, hi, hcmp⟩ := Option.map_eq_some_iff.1 es_isComp
  obtain ⟨j, hj, hjs⟩ := Option.map_eq_some_iff.1 es_isSize
  have h8 := @run_callFunc_extern Tryd.prog 96 _ Extern.ReflectliteType.typeOf Tryd.func96 (by kernel_rfl) (by kernel_rfl) (by kernel_rfl) (by kernel_rfl)
  have h32 := @run_callFunc_extern Tryd.prog 202 _ (Extern.ReflectliteType.method fun t => do Rtype.noPackHeld "Comparable" t; pure (.bool (← typeInfo t).comparable)) Tryd.func202 (by kernel_rfl) (by kernel_rfl) (by kernel_rfl) (by kernel_rfl)
  have tT := es_isTypeOf
  have cT := es_isComparable
  have mR := es_isMethodComparable
  have nE := es_noIsE
  have uE := es_noUnwrapE
  have vE := es_noUnwrapsE
  have heq := run_eql_iface_ptr_other (P := Tryd.prog) w Tryd.underlying25 Tryd.underlying213 hi hcmp hj (by rw [hjs]; decide) hne ha hb
  go_enter Tryd.func59, Tryd.ntmps59
  go_wp2
  refine wp_loop_rounds 1 ?_
  rw [rounds_succ]
  go_wp2
  go_ret
  exact ⟨rfl, rfl⟩


open Go.Sx

/-- A label of what an error points to, with an entry that tells something of it. -/
def errAt (H : List Ent) (l : Nat) (m : Ix → Nat) (p : List Stp) : M Unit := do
  chk (Nat.ble 23 l)
  chk (Nat.blt l 46)
  chk (Nat.beq (m []) 0)
  chk p.isEmpty
  let e ← opt (Sx.look H l)
  chk (noFam e.fam)
  chk (Nat.blt 0 e.t.size)

theorem errAt_ok {H : List Ent} {l : Nat} {m : Ix → Nat} {p : List Stp} {x y : Aux} {u : Unit} {d : Conds} (h : errAt H l m p x = .ok u d y) :
    d = [] ∧ x = y ∧ 23 ≤ l ∧ l < 46 ∧ m [] = 0 ∧ p = [] ∧ ∃ e, Sx.look H l = some e ∧ e.fam = none ∧ e.t.size ≠ 0 := by
  unfold errAt at h
  obtain ⟨e1, h⟩ := chk_bind h
  obtain ⟨e2, h⟩ := chk_bind h
  obtain ⟨e3, h⟩ := chk_bind h
  obtain ⟨e4, h⟩ := chk_bind h
  obtain ⟨e, he, h⟩ := opt_bind h
  obtain ⟨e5, h⟩ := chk_bind h
  obtain ⟨e6, h7, h8⟩ := chk_ok h
  refine ⟨h7, h8, by rwa [Nat.ble_eq] at e1, by rwa [Nat.blt_eq] at e2, Nat.eq_of_beq_eq_true e3, List.isEmpty_iff.1 e4, e, he, noFam_ok e5, ?_⟩
  rw [Nat.blt_eq] at e6
  omega

def isS : Summ := fun args H =>
  match args with
  | [.v (.ve t1 (.vp l1 m1 p1)), .v (.ve t2 (.vp l2 m2 p2))] => do
    chk (Nat.beq t1 213)
    chk (Nat.beq t2 213)
    errAt H l1 m1 p1
    errAt H l2 m2 p2
    pure ⟨.v (.vb fun _ => Nat.beq l1 l2), [], [], [l1, l2]⟩
  | _ => M.fail

theorem isS_ok : ∀ args H x e d y, isS args H x = .ok e d y → OkL d → (∀ a ∈ args, ∀ l ∈ a.labs, l < x.nl) → WFh (Sx.look H) x.nl → gtop Tryd.prog ≤ x.nl → CallOK Tryd.prog 59 args H x.nl e y.nl := by
  intro args H x e d y h hd h3 h4 h5
  unfold isS at h
  split at h
  · rename_i t1 l1 m1 p1 t2 l2 m2 p2
    obtain ⟨e1, h⟩ := chk_bind h
    obtain ⟨e2, h⟩ := chk_bind h
    have e1 := Nat.eq_of_beq_eq_true e1
    have e2 := Nat.eq_of_beq_eq_true e2
    obtain ⟨_, c1, y1, c2, g1, h6, hcc⟩ := bind_ok h
    obtain ⟨rfl, rfl, a1, a2, a3, a4, en1, a5, a6, a7⟩ := errAt_ok g1
    obtain ⟨_, c3, y3, c4, g2, h7, hcd⟩ := bind_ok h6
    obtain ⟨rfl, rfl, b1, b2, b3, b4, en2, b5, b6, b7⟩ := errAt_ok g2
    obtain ⟨rfl, rfl, rfl⟩ := pure_ok h7
    subst e1; subst e2; subst a4; subst b4
    refine ⟨Nat.le_refl _, fun ρ w av hlen hav hG hHp => ?_⟩
    match av, hlen with
    | [u, v], _ =>
      have hu := hav 0 _ u rfl rfl rfl
      have hv := hav 1 _ v rfl rfl rfl
      have hgs : Tryd.prog.globals.size = 23 := by kernel_rfl
      have thawed : ∀ (l : Nat) (en : Ent), 23 ≤ l → l < 46 → Sx.look H l = some en → en.fam = none → en.t.size ≠ 0 → l ∈ [l1, l2] → Thawed w (ρ l 0).blk := by
        intro l en k1 k2 k3 k4 k5 k6
        have hh := hHp.hp l k6 en k3
        unfold Ent.holds at hh
        simp only [k4] at hh
        rw [look_lab k3] at hh
        have ht := hG.thaw (l - 23) (by rw [hgs]; omega)
        rw [hgs, show 23 + (l - 23) = l by omega] at ht
        exact (hh.2.2 ht.2).2.2.2 ht.1 (by rw [Tr.cells_length]; exact k5)
      have vu : u = .iface 213 (.pointer (some ⟨(ρ l1 0).blk, (ρ l1 0).base, none⟩)) := by rw [hu]; simp [SV.val, Tr.val, offs, a3]
      have vv : v = .iface 213 (.pointer (some ⟨(ρ l2 0).blk, (ρ l2 0).base, none⟩)) := by rw [hv]; simp [SV.val, Tr.val, offs, b3]
      subst vu; subst vv
      have fin : ∀ {b : Bool}, b = Nat.beq l1 l2 → (Calls Tryd.prog 59 #[.iface 213 (.pointer (some ⟨(ρ l1 0).blk, (ρ l1 0).base, none⟩)), .iface 213 (.pointer (some ⟨(ρ l2 0).blk, (ρ l2 0).base, none⟩))] w fun e w' => e = .returned (.bool b) ∧ w' = w) →
          Calls Tryd.prog 59 #[.iface 213 (.pointer (some ⟨(ρ l1 0).blk, (ρ l1 0).base, none⟩)), .iface 213 (.pointer (some ⟨(ρ l2 0).blk, (ρ l2 0).base, none⟩))] w fun en w' => ∃ ρ' v, en = .returned v ∧ ((SV.v (.vb fun _ => Nat.beq l1 l2)).isJ = false → v = (SV.v (.vb fun _ => Nat.beq l1 l2)).val ρ') ∧ EffOK ρ ρ' x.nl x.nl H ⟨.v (.vb fun _ => Nat.beq l1 l2), [], [], [l1, l2]⟩ w w' := by
        intro b hb hc
        refine hc.mono fun en w' ⟨h1, h2⟩ => ⟨ρ, _, h1, fun _ => by rw [hb]; rfl, ?_⟩
        rw [h2]; exact EffOK.pure
      by_cases hl : l1 = l2
      · subst hl
        exact fin (b := true) (beqT rfl).symm (is_same _ w)
      · obtain ⟨c1, t1, q1⟩ := thawed l1 en1 a1 a2 a5 a6 a7 (by simp)
        obtain ⟨c2, t2, q2⟩ := thawed l2 en2 b1 b2 b5 b6 b7 (by simp)
        refine fin (b := false) (beqF hl).symm (is_other _ _ c1 c2 t1 t2 w ?_ q1 q2)
        intro he
        have := hG.apart (l1 - 23) (l2 - 23) (by rw [hgs]; omega) (by rw [hgs]; omega) (by omega)
        rw [hgs, show 23 + (l1 - 23) = l1 by omega, show 23 + (l2 - 23) = l2 by omega] at this
        simp only [Addr.mk.injEq, and_true] at he
        exact this he
  · exact (fail_ok h).elim

end Go.Proofs.YtaleenklamognaaDoor

set_option linter.unusedSimpArgs false
set_option linter.unusedVariables false
set_option maxRecDepth 100000
namespace Go.Proofs.YtaleenklamognaaDoor
open Go.Sx

def errG : List Nat := [0, 1, 2, 3, 4, 5, 6, 7, 8, 9, 10, 11, 12, 13, 14, 15]
def numC (H : List Ent) : List Ent := sentEnts 23 213 (textsIn 23 H errG)
def numA (l : Nat) : SV := .v (.ve 213 (.vp l (fun _ => 0) []))
def sumsI : List (FuncId × Summ) := [(59, isS)]

theorem goodN : PGood Tryd.prog := good_of (by kernel_rfl) (by kernel_rfl)
theorem gtopE : gtop Tryd.prog ≤ 54 := of_decide_eq_true (by kernel_rfl)
theorem baseI : Base0 Tryd.prog sumsI := (Base0.nil goodN).cons Tryd.func59 (by kernel_rfl) isS_ok
theorem num_nil_p0 (H : List Ent) :
    isEnd (evTill Tryd.prog sumsI 100 99 900 16 [.code (bodyOf Tryd.f16)] (envOf [.v .ve0] Tryd.f16.ntmps) [] ⟨[.t], 54⟩) (endP ([]) (.v (.vi .i64 fun _ => 0)) [] 104) =
    (OkL [] ∧ (0 : Int) = (0 : Int) ∧ True) := by kernel_rfl

set_option maxHeartbeats 4000000 in
theorem num_nil (H : List Ent)  :
    RunsTo Tryd.prog 16 [.code (bodyOf Tryd.f16)] (envOf [.v .ve0] Tryd.f16.ntmps) (Sx.look []) 54 (.v (.vi .i64 fun _ => 0)) (Sx.look []) 104 := by
  exact runs_last baseI (Sx.Ends.of (num_nil_p0 H) ⟨okn, rfl, trivial⟩) (by kernel_rfl) rfl gtopE (Nat.le_refl _)

theorem num_0_p0 (H : List Ent) :
    isEnd (evTill Tryd.prog sumsI 100 99 900 16 [.code (bodyOf Tryd.f16)] (envOf [numA 23] Tryd.f16.ntmps) (numC H) ⟨[.f, .t, .t, .t, .f, .t, .t, .t, .f, .t, .t, .t, .f, .t, .t, .t, .t], 54⟩) (endP ([]) (.v (.vi .i64 fun _ => 4)) [] 104) =
    (OkL [] ∧ (4 : Int) = IntKind.i64.wrap (IntKind.i64.wrap (IntKind.i64.wrap (IntKind.i64.wrap ((0 : Int) + (1 : Int)) + (1 : Int)) + (1 : Int)) + (1 : Int)) ∧ True) := by kernel_rfl

set_option maxHeartbeats 4000000 in
theorem num_0 (H : List Ent)  :
    RunsTo Tryd.prog 16 [.code (bodyOf Tryd.f16)] (envOf [numA 23] Tryd.f16.ntmps) (Sx.look (numC H)) 54 (.v (.vi .i64 fun _ => 4)) (Sx.look []) 104 := by
  exact runs_last baseI (Sx.Ends.of (num_0_p0 H) ⟨okn, rfl, trivial⟩) (by kernel_rfl) rfl gtopE (Nat.le_refl _)

theorem num_1_p0 (H : List Ent) :
    isEnd (evTill Tryd.prog sumsI 100 99 900 16 [.code (bodyOf Tryd.f16)] (envOf [numA 24] Tryd.f16.ntmps) (numC H) ⟨[.f, .t, .t, .t, .f, .t, .t, .t, .f, .t, .t, .t, .f, .t, .t, .t, .f, .t, .t, .t, .f, .t, .t, .t, .f, .t, .t, .t, .f, .t, .t, .t, .f, .t, .t, .t, .f, .t, .t, .t, .f, .t, .t, .t, .f, .t, .t, .t, .f, .t, .t, .t, .f, .t, .t, .t, .f, .t, .t, .t, .f, .t, .t, .t, .t], 54⟩) (endP ([]) (.v (.vi .i64 fun _ => 16)) [] 104) =
    (OkL [] ∧ (16 : Int) = IntKind.i64.wrap (IntKind.i64.wrap (IntKind.i64.wrap (IntKind.i64.wrap (IntKind.i64.wrap (IntKind.i64.wrap (IntKind.i64.wrap (IntKind.i64.wrap (IntKind.i64.wrap (IntKind.i64.wrap (IntKind.i64.wrap (IntKind.i64.wrap (IntKind.i64.wrap (IntKind.i64.wrap (IntKind.i64.wrap (IntKind.i64.wrap ((0 : Int) + (1 : Int)) + (1 : Int)) + (1 : Int)) + (1 : Int)) + (1 : Int)) + (1 : Int)) + (1 : Int)) + (1 : Int)) + (1 : Int)) + (1 : Int)) + (1 : Int)) + (1 : Int)) + (1 : Int)) + (1 : Int)) + (1 : Int)) + (1 : Int)) ∧ True) := by kernel_rfl

set_option maxHeartbeats 4000000 in
theorem num_1 (H : List Ent)  :
    RunsTo Tryd.prog 16 [.code (bodyOf Tryd.f16)] (envOf [numA 24] Tryd.f16.ntmps) (Sx.look (numC H)) 54 (.v (.vi .i64 fun _ => 16)) (Sx.look []) 104 := by
  exact runs_last baseI (Sx.Ends.of (num_1_p0 H) ⟨okn, rfl, trivial⟩) (by kernel_rfl) rfl gtopE (Nat.le_refl _)

theorem num_2_p0 (H : List Ent) :
    isEnd (evTill Tryd.prog sumsI 100 99 900 16 [.code (bodyOf Tryd.f16)] (envOf [numA 25] Tryd.f16.ntmps) (numC H) ⟨[.f, .t, .t, .t, .f, .t, .t, .t, .f, .t, .t, .t, .f, .t, .t, .t, .f, .t, .t, .t, .f, .t, .t, .t, .t], 54⟩) (endP ([]) (.v (.vi .i64 fun _ => 6)) [] 104) =
    (OkL [] ∧ (6 : Int) = IntKind.i64.wrap (IntKind.i64.wrap (IntKind.i64.wrap (IntKind.i64.wrap (IntKind.i64.wrap (IntKind.i64.wrap ((0 : Int) + (1 : Int)) + (1 : Int)) + (1 : Int)) + (1 : Int)) + (1 : Int)) + (1 : Int)) ∧ True) := by kernel_rfl

set_option maxHeartbeats 4000000 in
theorem num_2 (H : List Ent)  :
    RunsTo Tryd.prog 16 [.code (bodyOf Tryd.f16)] (envOf [numA 25] Tryd.f16.ntmps) (Sx.look (numC H)) 54 (.v (.vi .i64 fun _ => 6)) (Sx.look []) 104 := by
  exact runs_last baseI (Sx.Ends.of (num_2_p0 H) ⟨okn, rfl, trivial⟩) (by kernel_rfl) rfl gtopE (Nat.le_refl _)

theorem num_3_p0 (H : List Ent) :
    isEnd (evTill Tryd.prog sumsI 100 99 900 16 [.code (bodyOf Tryd.f16)] (envOf [numA 26] Tryd.f16.ntmps) (numC H) ⟨[.f, .t, .t, .t, .f, .t, .t, .t, .t], 54⟩) (endP ([]) (.v (.vi .i64 fun _ => 2)) [] 104) =
    (OkL [] ∧ (2 : Int) = IntKind.i64.wrap (IntKind.i64.wrap ((0 : Int) + (1 : Int)) + (1 : Int)) ∧ True) := by kernel_rfl

set_option maxHeartbeats 4000000 in
theorem num_3 (H : List Ent)  :
    RunsTo Tryd.prog 16 [.code (bodyOf Tryd.f16)] (envOf [numA 26] Tryd.f16.ntmps) (Sx.look (numC H)) 54 (.v (.vi .i64 fun _ => 2)) (Sx.look []) 104 := by
  exact runs_last baseI (Sx.Ends.of (num_3_p0 H) ⟨okn, rfl, trivial⟩) (by kernel_rfl) rfl gtopE (Nat.le_refl _)

theorem num_4_p0 (H : List Ent) :
    isEnd (evTill Tryd.prog sumsI 100 99 900 16 [.code (bodyOf Tryd.f16)] (envOf [numA 27] Tryd.f16.ntmps) (numC H) ⟨[.f, .t, .t, .t, .t], 54⟩) (endP ([]) (.v (.vi .i64 fun _ => 1)) [] 104) =
    (OkL [] ∧ (1 : Int) = IntKind.i64.wrap ((0 : Int) + (1 : Int)) ∧ True) := by kernel_rfl

set_option maxHeartbeats 4000000 in
theorem num_4 (H : List Ent)  :
    RunsTo Tryd.prog 16 [.code (bodyOf Tryd.f16)] (envOf [numA 27] Tryd.f16.ntmps) (Sx.look (numC H)) 54 (.v (.vi .i64 fun _ => 1)) (Sx.look []) 104 := by
  exact runs_last baseI (Sx.Ends.of (num_4_p0 H) ⟨okn, rfl, trivial⟩) (by kernel_rfl) rfl gtopE (Nat.le_refl _)

theorem num_5_p0 (H : List Ent) :
    isEnd (evTill Tryd.prog sumsI 100 99 900 16 [.code (bodyOf Tryd.f16)] (envOf [numA 28] Tryd.f16.ntmps) (numC H) ⟨[.f, .t, .t, .t, .f, .t, .t, .t, .f, .t, .t, .t, .t], 54⟩) (endP ([]) (.v (.vi .i64 fun _ => 3)) [] 104) =
    (OkL [] ∧ (3 : Int) = IntKind.i64.wrap (IntKind.i64.wrap (IntKind.i64.wrap ((0 : Int) + (1 : Int)) + (1 : Int)) + (1 : Int)) ∧ True) := by kernel_rfl

set_option maxHeartbeats 4000000 in
theorem num_5 (H : List Ent)  :
    RunsTo Tryd.prog 16 [.code (bodyOf Tryd.f16)] (envOf [numA 28] Tryd.f16.ntmps) (Sx.look (numC H)) 54 (.v (.vi .i64 fun _ => 3)) (Sx.look []) 104 := by
  exact runs_last baseI (Sx.Ends.of (num_5_p0 H) ⟨okn, rfl, trivial⟩) (by kernel_rfl) rfl gtopE (Nat.le_refl _)

theorem num_6_p0 (H : List Ent) :
    isEnd (evTill Tryd.prog sumsI 100 99 900 16 [.code (bodyOf Tryd.f16)] (envOf [numA 29] Tryd.f16.ntmps) (numC H) ⟨[.f, .t, .t, .t, .f, .t, .t, .t, .f, .t, .t, .t, .f, .t, .t, .t, .f, .t, .t, .t, .t], 54⟩) (endP ([]) (.v (.vi .i64 fun _ => 5)) [] 104) =
    (OkL [] ∧ (5 : Int) = IntKind.i64.wrap (IntKind.i64.wrap (IntKind.i64.wrap (IntKind.i64.wrap (IntKind.i64.wrap ((0 : Int) + (1 : Int)) + (1 : Int)) + (1 : Int)) + (1 : Int)) + (1 : Int)) ∧ True) := by kernel_rfl

set_option maxHeartbeats 4000000 in
theorem num_6 (H : List Ent)  :
    RunsTo Tryd.prog 16 [.code (bodyOf Tryd.f16)] (envOf [numA 29] Tryd.f16.ntmps) (Sx.look (numC H)) 54 (.v (.vi .i64 fun _ => 5)) (Sx.look []) 104 := by
  exact runs_last baseI (Sx.Ends.of (num_6_p0 H) ⟨okn, rfl, trivial⟩) (by kernel_rfl) rfl gtopE (Nat.le_refl _)

theorem num_7_p0 (H : List Ent) :
    isEnd (evTill Tryd.prog sumsI 100 99 900 16 [.code (bodyOf Tryd.f16)] (envOf [numA 30] Tryd.f16.ntmps) (numC H) ⟨[.f, .t, .t, .t, .f, .t, .t, .t, .f, .t, .t, .t, .f, .t, .t, .t, .f, .t, .t, .t, .f, .t, .t, .t, .f, .t, .t, .t, .t], 54⟩) (endP ([]) (.v (.vi .i64 fun _ => 7)) [] 104) =
    (OkL [] ∧ (7 : Int) = IntKind.i64.wrap (IntKind.i64.wrap (IntKind.i64.wrap (IntKind.i64.wrap (IntKind.i64.wrap (IntKind.i64.wrap (IntKind.i64.wrap ((0 : Int) + (1 : Int)) + (1 : Int)) + (1 : Int)) + (1 : Int)) + (1 : Int)) + (1 : Int)) + (1 : Int)) ∧ True) := by kernel_rfl

set_option maxHeartbeats 4000000 in
theorem num_7 (H : List Ent)  :
    RunsTo Tryd.prog 16 [.code (bodyOf Tryd.f16)] (envOf [numA 30] Tryd.f16.ntmps) (Sx.look (numC H)) 54 (.v (.vi .i64 fun _ => 7)) (Sx.look []) 104 := by
  exact runs_last baseI (Sx.Ends.of (num_7_p0 H) ⟨okn, rfl, trivial⟩) (by kernel_rfl) rfl gtopE (Nat.le_refl _)

theorem num_8_p0 (H : List Ent) :
    isEnd (evTill Tryd.prog sumsI 100 99 900 16 [.code (bodyOf Tryd.f16)] (envOf [numA 31] Tryd.f16.ntmps) (numC H) ⟨[.f, .t, .t, .t, .f, .t, .t, .t, .f, .t, .t, .t, .f, .t, .t, .t, .f, .t, .t, .t, .f, .t, .t, .t, .f, .t, .t, .t, .f, .t, .t, .t, .t], 54⟩) (endP ([]) (.v (.vi .i64 fun _ => 8)) [] 104) =
    (OkL [] ∧ (8 : Int) = IntKind.i64.wrap (IntKind.i64.wrap (IntKind.i64.wrap (IntKind.i64.wrap (IntKind.i64.wrap (IntKind.i64.wrap (IntKind.i64.wrap (IntKind.i64.wrap ((0 : Int) + (1 : Int)) + (1 : Int)) + (1 : Int)) + (1 : Int)) + (1 : Int)) + (1 : Int)) + (1 : Int)) + (1 : Int)) ∧ True) := by kernel_rfl

set_option maxHeartbeats 4000000 in
theorem num_8 (H : List Ent)  :
    RunsTo Tryd.prog 16 [.code (bodyOf Tryd.f16)] (envOf [numA 31] Tryd.f16.ntmps) (Sx.look (numC H)) 54 (.v (.vi .i64 fun _ => 8)) (Sx.look []) 104 := by
  exact runs_last baseI (Sx.Ends.of (num_8_p0 H) ⟨okn, rfl, trivial⟩) (by kernel_rfl) rfl gtopE (Nat.le_refl _)

theorem num_9_p0 (H : List Ent) :
    isEnd (evTill Tryd.prog sumsI 100 99 900 16 [.code (bodyOf Tryd.f16)] (envOf [numA 32] Tryd.f16.ntmps) (numC H) ⟨[.f, .t, .t, .t, .f, .t, .t, .t, .f, .t, .t, .t, .f, .t, .t, .t, .f, .t, .t, .t, .f, .t, .t, .t, .f, .t, .t, .t, .f, .t, .t, .t, .f, .t, .t, .t, .t], 54⟩) (endP ([]) (.v (.vi .i64 fun _ => 9)) [] 104) =
    (OkL [] ∧ (9 : Int) = IntKind.i64.wrap (IntKind.i64.wrap (IntKind.i64.wrap (IntKind.i64.wrap (IntKind.i64.wrap (IntKind.i64.wrap (IntKind.i64.wrap (IntKind.i64.wrap (IntKind.i64.wrap ((0 : Int) + (1 : Int)) + (1 : Int)) + (1 : Int)) + (1 : Int)) + (1 : Int)) + (1 : Int)) + (1 : Int)) + (1 : Int)) + (1 : Int)) ∧ True) := by kernel_rfl

set_option maxHeartbeats 4000000 in
theorem num_9 (H : List Ent)  :
    RunsTo Tryd.prog 16 [.code (bodyOf Tryd.f16)] (envOf [numA 32] Tryd.f16.ntmps) (Sx.look (numC H)) 54 (.v (.vi .i64 fun _ => 9)) (Sx.look []) 104 := by
  exact runs_last baseI (Sx.Ends.of (num_9_p0 H) ⟨okn, rfl, trivial⟩) (by kernel_rfl) rfl gtopE (Nat.le_refl _)

theorem num_10_p0 (H : List Ent) :
    isEnd (evTill Tryd.prog sumsI 100 99 900 16 [.code (bodyOf Tryd.f16)] (envOf [numA 33] Tryd.f16.ntmps) (numC H) ⟨[.f, .t, .t, .t, .f, .t, .t, .t, .f, .t, .t, .t, .f, .t, .t, .t, .f, .t, .t, .t, .f, .t, .t, .t, .f, .t, .t, .t, .f, .t, .t, .t, .f, .t, .t, .t, .f, .t, .t, .t, .t], 54⟩) (endP ([]) (.v (.vi .i64 fun _ => 10)) [] 104) =
    (OkL [] ∧ (10 : Int) = IntKind.i64.wrap (IntKind.i64.wrap (IntKind.i64.wrap (IntKind.i64.wrap (IntKind.i64.wrap (IntKind.i64.wrap (IntKind.i64.wrap (IntKind.i64.wrap (IntKind.i64.wrap (IntKind.i64.wrap ((0 : Int) + (1 : Int)) + (1 : Int)) + (1 : Int)) + (1 : Int)) + (1 : Int)) + (1 : Int)) + (1 : Int)) + (1 : Int)) + (1 : Int)) + (1 : Int)) ∧ True) := by kernel_rfl

set_option maxHeartbeats 4000000 in
theorem num_10 (H : List Ent)  :
    RunsTo Tryd.prog 16 [.code (bodyOf Tryd.f16)] (envOf [numA 33] Tryd.f16.ntmps) (Sx.look (numC H)) 54 (.v (.vi .i64 fun _ => 10)) (Sx.look []) 104 := by
  exact runs_last baseI (Sx.Ends.of (num_10_p0 H) ⟨okn, rfl, trivial⟩) (by kernel_rfl) rfl gtopE (Nat.le_refl _)

theorem num_11_p0 (H : List Ent) :
    isEnd (evTill Tryd.prog sumsI 100 99 900 16 [.code (bodyOf Tryd.f16)] (envOf [numA 34] Tryd.f16.ntmps) (numC H) ⟨[.f, .t, .t, .t, .f, .t, .t, .t, .f, .t, .t, .t, .f, .t, .t, .t, .f, .t, .t, .t, .f, .t, .t, .t, .f, .t, .t, .t, .f, .t, .t, .t, .f, .t, .t, .t, .f, .t, .t, .t, .f, .t, .t, .t, .t], 54⟩) (endP ([]) (.v (.vi .i64 fun _ => 11)) [] 104) =
    (OkL [] ∧ (11 : Int) = IntKind.i64.wrap (IntKind.i64.wrap (IntKind.i64.wrap (IntKind.i64.wrap (IntKind.i64.wrap (IntKind.i64.wrap (IntKind.i64.wrap (IntKind.i64.wrap (IntKind.i64.wrap (IntKind.i64.wrap (IntKind.i64.wrap ((0 : Int) + (1 : Int)) + (1 : Int)) + (1 : Int)) + (1 : Int)) + (1 : Int)) + (1 : Int)) + (1 : Int)) + (1 : Int)) + (1 : Int)) + (1 : Int)) + (1 : Int)) ∧ True) := by kernel_rfl

set_option maxHeartbeats 4000000 in
theorem num_11 (H : List Ent)  :
    RunsTo Tryd.prog 16 [.code (bodyOf Tryd.f16)] (envOf [numA 34] Tryd.f16.ntmps) (Sx.look (numC H)) 54 (.v (.vi .i64 fun _ => 11)) (Sx.look []) 104 := by
  exact runs_last baseI (Sx.Ends.of (num_11_p0 H) ⟨okn, rfl, trivial⟩) (by kernel_rfl) rfl gtopE (Nat.le_refl _)

theorem num_12_p0 (H : List Ent) :
    isEnd (evTill Tryd.prog sumsI 100 99 900 16 [.code (bodyOf Tryd.f16)] (envOf [numA 35] Tryd.f16.ntmps) (numC H) ⟨[.f, .t, .t, .t, .f, .t, .t, .t, .f, .t, .t, .t, .f, .t, .t, .t, .f, .t, .t, .t, .f, .t, .t, .t, .f, .t, .t, .t, .f, .t, .t, .t, .f, .t, .t, .t, .f, .t, .t, .t, .f, .t, .t, .t, .f, .t, .t, .t, .t], 54⟩) (endP ([]) (.v (.vi .i64 fun _ => 12)) [] 104) =
    (OkL [] ∧ (12 : Int) = IntKind.i64.wrap (IntKind.i64.wrap (IntKind.i64.wrap (IntKind.i64.wrap (IntKind.i64.wrap (IntKind.i64.wrap (IntKind.i64.wrap (IntKind.i64.wrap (IntKind.i64.wrap (IntKind.i64.wrap (IntKind.i64.wrap (IntKind.i64.wrap ((0 : Int) + (1 : Int)) + (1 : Int)) + (1 : Int)) + (1 : Int)) + (1 : Int)) + (1 : Int)) + (1 : Int)) + (1 : Int)) + (1 : Int)) + (1 : Int)) + (1 : Int)) + (1 : Int)) ∧ True) := by kernel_rfl

set_option maxHeartbeats 4000000 in
theorem num_12 (H : List Ent)  :
    RunsTo Tryd.prog 16 [.code (bodyOf Tryd.f16)] (envOf [numA 35] Tryd.f16.ntmps) (Sx.look (numC H)) 54 (.v (.vi .i64 fun _ => 12)) (Sx.look []) 104 := by
  exact runs_last baseI (Sx.Ends.of (num_12_p0 H) ⟨okn, rfl, trivial⟩) (by kernel_rfl) rfl gtopE (Nat.le_refl _)

theorem num_13_p0 (H : List Ent) :
    isEnd (evTill Tryd.prog sumsI 100 99 900 16 [.code (bodyOf Tryd.f16)] (envOf [numA 36] Tryd.f16.ntmps) (numC H) ⟨[.f, .t, .t, .t, .f, .t, .t, .t, .f, .t, .t, .t, .f, .t, .t, .t, .f, .t, .t, .t, .f, .t, .t, .t, .f, .t, .t, .t, .f, .t, .t, .t, .f, .t, .t, .t, .f, .t, .t, .t, .f, .t, .t, .t, .f, .t, .t, .t, .f, .t, .t, .t, .t], 54⟩) (endP ([]) (.v (.vi .i64 fun _ => 13)) [] 104) =
    (OkL [] ∧ (13 : Int) = IntKind.i64.wrap (IntKind.i64.wrap (IntKind.i64.wrap (IntKind.i64.wrap (IntKind.i64.wrap (IntKind.i64.wrap (IntKind.i64.wrap (IntKind.i64.wrap (IntKind.i64.wrap (IntKind.i64.wrap (IntKind.i64.wrap (IntKind.i64.wrap (IntKind.i64.wrap ((0 : Int) + (1 : Int)) + (1 : Int)) + (1 : Int)) + (1 : Int)) + (1 : Int)) + (1 : Int)) + (1 : Int)) + (1 : Int)) + (1 : Int)) + (1 : Int)) + (1 : Int)) + (1 : Int)) + (1 : Int)) ∧ True) := by kernel_rfl

set_option maxHeartbeats 4000000 in
theorem num_13 (H : List Ent)  :
    RunsTo Tryd.prog 16 [.code (bodyOf Tryd.f16)] (envOf [numA 36] Tryd.f16.ntmps) (Sx.look (numC H)) 54 (.v (.vi .i64 fun _ => 13)) (Sx.look []) 104 := by
  exact runs_last baseI (Sx.Ends.of (num_13_p0 H) ⟨okn, rfl, trivial⟩) (by kernel_rfl) rfl gtopE (Nat.le_refl _)

theorem num_14_p0 (H : List Ent) :
    isEnd (evTill Tryd.prog sumsI 100 99 900 16 [.code (bodyOf Tryd.f16)] (envOf [numA 37] Tryd.f16.ntmps) (numC H) ⟨[.f, .t, .t, .t, .f, .t, .t, .t, .f, .t, .t, .t, .f, .t, .t, .t, .f, .t, .t, .t, .f, .t, .t, .t, .f, .t, .t, .t, .f, .t, .t, .t, .f, .t, .t, .t, .f, .t, .t, .t, .f, .t, .t, .t, .f, .t, .t, .t, .f, .t, .t, .t, .f, .t, .t, .t, .t], 54⟩) (endP ([]) (.v (.vi .i64 fun _ => 14)) [] 104) =
    (OkL [] ∧ (14 : Int) = IntKind.i64.wrap (IntKind.i64.wrap (IntKind.i64.wrap (IntKind.i64.wrap (IntKind.i64.wrap (IntKind.i64.wrap (IntKind.i64.wrap (IntKind.i64.wrap (IntKind.i64.wrap (IntKind.i64.wrap (IntKind.i64.wrap (IntKind.i64.wrap (IntKind.i64.wrap (IntKind.i64.wrap ((0 : Int) + (1 : Int)) + (1 : Int)) + (1 : Int)) + (1 : Int)) + (1 : Int)) + (1 : Int)) + (1 : Int)) + (1 : Int)) + (1 : Int)) + (1 : Int)) + (1 : Int)) + (1 : Int)) + (1 : Int)) + (1 : Int)) ∧ True) := by kernel_rfl

set_option maxHeartbeats 4000000 in
theorem num_14 (H : List Ent)  :
    RunsTo Tryd.prog 16 [.code (bodyOf Tryd.f16)] (envOf [numA 37] Tryd.f16.ntmps) (Sx.look (numC H)) 54 (.v (.vi .i64 fun _ => 14)) (Sx.look []) 104 := by
  exact runs_last baseI (Sx.Ends.of (num_14_p0 H) ⟨okn, rfl, trivial⟩) (by kernel_rfl) rfl gtopE (Nat.le_refl _)

theorem num_15_p0 (H : List Ent) :
    isEnd (evTill Tryd.prog sumsI 100 99 900 16 [.code (bodyOf Tryd.f16)] (envOf [numA 38] Tryd.f16.ntmps) (numC H) ⟨[.f, .t, .t, .t, .f, .t, .t, .t, .f, .t, .t, .t, .f, .t, .t, .t, .f, .t, .t, .t, .f, .t, .t, .t, .f, .t, .t, .t, .f, .t, .t, .t, .f, .t, .t, .t, .f, .t, .t, .t, .f, .t, .t, .t, .f, .t, .t, .t, .f, .t, .t, .t, .f, .t, .t, .t, .f, .t, .t, .t, .t], 54⟩) (endP ([]) (.v (.vi .i64 fun _ => 15)) [] 104) =
    (OkL [] ∧ (15 : Int) = IntKind.i64.wrap (IntKind.i64.wrap (IntKind.i64.wrap (IntKind.i64.wrap (IntKind.i64.wrap (IntKind.i64.wrap (IntKind.i64.wrap (IntKind.i64.wrap (IntKind.i64.wrap (IntKind.i64.wrap (IntKind.i64.wrap (IntKind.i64.wrap (IntKind.i64.wrap (IntKind.i64.wrap (IntKind.i64.wrap ((0 : Int) + (1 : Int)) + (1 : Int)) + (1 : Int)) + (1 : Int)) + (1 : Int)) + (1 : Int)) + (1 : Int)) + (1 : Int)) + (1 : Int)) + (1 : Int)) + (1 : Int)) + (1 : Int)) + (1 : Int)) + (1 : Int)) + (1 : Int)) ∧ True) := by kernel_rfl

set_option maxHeartbeats 4000000 in
theorem num_15 (H : List Ent)  :
    RunsTo Tryd.prog 16 [.code (bodyOf Tryd.f16)] (envOf [numA 38] Tryd.f16.ntmps) (Sx.look (numC H)) 54 (.v (.vi .i64 fun _ => 15)) (Sx.look []) 104 := by
  exact runs_last baseI (Sx.Ends.of (num_15_p0 H) ⟨okn, rfl, trivial⟩) (by kernel_rfl) rfl gtopE (Nat.le_refl _)

end Go.Proofs.YtaleenklamognaaDoor

set_option linter.unusedSimpArgs false
set_option linter.unusedVariables false
set_option maxRecDepth 100000
namespace Go.Proofs.YtaleenklamognaaDoor
open Go.Sx

def memB (l : Nat) : List Nat → Bool
  | [] => false
  | a :: r => match Nat.beq a l with | true => true | false => memB l r
theorem memB_ok {l : Nat} : ∀ {r : List Nat}, memB l r = true → l ∈ r
  | a :: r, h => by
    simp only [memB] at h
    split at h
    · rename_i e; rw [Nat.eq_of_beq_eq_true e]; simp
    · exact List.mem_cons_of_mem _ (memB_ok h)

def numOf (l : Nat) : Int := match l with
  | 23 => 4
  | 24 => 16
  | 25 => 6
  | 26 => 2
  | 27 => 1
  | 28 => 3
  | 29 => 5
  | 30 => 7
  | 31 => 8
  | 32 => 9
  | 33 => 10
  | 34 => 11
  | 35 => 12
  | 36 => 13
  | 37 => 14
  | 38 => 15
  | _ => 0

def numS : Summ := fun args H =>
  match args with
  | [.v .ve0] => do
    bump 50
    pure ⟨.v (.vi .i64 fun _ => 0), [], [], []⟩
  | [.v (.ve t (.vp l m p))] => do
    chk (Nat.beq t 213)
    chk (Nat.beq (m []) 0)
    chk p.isEmpty
    chk (errsIn 23 213 H errG)
    chk (memB l (errG.map (23 + ·)))
    bump 50
    pure ⟨.v (.vi .i64 fun _ => numOf l), [], [], errLabs 23 errG⟩
  | _ => M.fail

theorem num_runs (H : List Ent) (l : Nat) (hl : memB l (errG.map (23 + ·)) = true) : RunsTo Tryd.prog 16 [.code (bodyOf Tryd.f16)] (envOf [numA l] Tryd.f16.ntmps) (Sx.look (numC H)) 54 (.v (.vi .i64 fun _ => numOf l)) (Sx.look []) (54 + 50) := by
  have hl := memB_ok hl
  simp only [errG, List.map_cons, List.map_nil, List.mem_cons, List.not_mem_nil, or_false] at hl
  rcases hl with rfl | rfl | rfl | rfl | rfl | rfl | rfl | rfl | rfl | rfl | rfl | rfl | rfl | rfl | rfl | rfl
  · exact num_0 H
  · exact num_1 H
  · exact num_2 H
  · exact num_3 H
  · exact num_4 H
  · exact num_5 H
  · exact num_6 H
  · exact num_7 H
  · exact num_8 H
  · exact num_9 H
  · exact num_10 H
  · exact num_11 H
  · exact num_12 H
  · exact num_13 H
  · exact num_14 H
  · exact num_15 H

theorem numS_ok : ∀ args H x e d y, numS args H x = .ok e d y → OkL d → (∀ a ∈ args, ∀ l ∈ a.labs, l < x.nl) → WFh (Sx.look H) x.nl → gtop Tryd.prog ≤ x.nl → CallOK Tryd.prog 16 args H x.nl e y.nl := by
  intro args H x e d y h hd h3 h4 h5
  unfold numS at h
  split at h
  · obtain ⟨x9, n9, h⟩ := bump_bind h
    obtain ⟨rfl, rfl, rfl⟩ := pure_ok h
    rw [n9]
    exact useC_ok (σ := []) Tryd.func16 (body := bodyOf Tryd.f16) (by kernel_rfl) (cargs := [.v .ve0]) (C := []) (C' := []) (n := 54) (n' := 54 + 50)
      (num_nil []) rfl rfl ⟨trivial, trivial⟩ trivial (by kernel_rfl) rfl rfl rfl
  · rename_i t l m p
    obtain ⟨e1, h⟩ := chk_bind h
    obtain ⟨e2, h⟩ := chk_bind h
    obtain ⟨e3, h⟩ := chk_bind h
    obtain ⟨e4, h⟩ := chk_bind h
    obtain ⟨e5, h⟩ := chk_bind h
    obtain ⟨x9, n9, h⟩ := bump_bind h
    obtain ⟨rfl, rfl, rfl⟩ := pure_ok h
    have e1 := Nat.eq_of_beq_eq_true e1
    have e2 := Nat.eq_of_beq_eq_true e2
    have e3 : p = [] := List.isEmpty_iff.1 e3
    subst e1; subst e3
    rw [n9]
    have hs := srcs_sent (G := 23) (tp := 213) (H := H) errG
    have hu := useC_ok (σ := []) (args := [.v (.ve 213 (.vp l m []))]) (H := H) (nl := x.nl) Tryd.func16 (body := bodyOf Tryd.f16) (by kernel_rfl) (cargs := [numA l]) (C := numC H) (C' := []) (n := 54) (n' := 54 + 50) (num_runs H l e5) (by kernel_rfl) rfl
      ⟨by simp [numA, fitS, fitT, fitP, sgOf, onB_true, offs, allB, e2, beqT rfl], trivial⟩ (errs_fitH e4) (by kernel_rfl) rfl rfl rfl
    unfold effC at hu
    rw [show srcsOf [] (numC H) = errLabs 23 errG from hs] at hu
    exact hu
  · exact (fail_ok h).elim

end Go.Proofs.YtaleenklamognaaDoor

set_option linter.unusedSimpArgs false
set_option linter.unusedVariables false
namespace WordR

/-- A piece of a text: a variable's name, or a literal. -/
structure Pc where
  var : List UInt8
  lit : List UInt8
deriving DecidableEq, Repr
/-- A token. -/
structure Wt where
  kind : Nat
  text : List UInt8
  num : Int
  ps : List Pc
  pos : Nat
deriving DecidableEq, Repr
def ltrI (x : Int) : Bool := decide (97 ≤ x ∧ x ≤ 122 ∨ 65 ≤ x ∧ x ≤ 90 ∨ x = 95)
def figI (x : Int) : Bool := decide (48 ≤ x ∧ x ≤ 57)
def goI (x : Int) : Bool := ltrI x || figI x
def blI (x : Int) : Bool := decide (x = 32 ∨ x = 9 ∨ x = 13)
def nlI (x : Int) : Bool := decide (x ≠ 10)
def nat (c : UInt8) : Int := (c.toNat : Int)
/-- How many bytes are such, from the beginning on. -/
def spanR (p : Int → Bool) : List UInt8 → Nat
  | [] => 0
  | c :: r => if p (nat c) = true then spanR p r + 1 else 0
/-- How many bytes belong to a gap (true: within a remark). -/
def gapR : Bool → List UInt8 → Nat
  | _, [] => 0
  | false, c :: r => if blI (nat c) = true then gapR false r + 1 else if c = 35 then gapR true r + 1 else 0
  | true, c :: r => if c = 10 then 0 else gapR true r + 1
/-- What is read: a token and how many bytes it has, or an error's number. -/
inductive TR where
  | ok (t : Wt) (n : Nat)
  | err (e : Nat)
deriving DecidableEq, Repr
def nameR (l : List UInt8) : TR := if 24 < spanR goI l then .err 4 else .ok ⟨1, l.take (spanR goI l), 0, [], 0⟩ (spanR goI l)
def decA (n : Int) : List UInt8 → Int
  | [] => n
  | c :: r => decA (10 * n + (nat c - 48)) r
def decR (l : List UInt8) : Int := decA 0 l
def numK (m : Bool) (r : List UInt8) : TR :=
  if 9 < spanR figI r then .err 4
  else if spanR figI r = 0 ∨ (1 < spanR figI r ∧ r.headD 0 = 48) ∨ (m = true ∧ r.take (spanR figI r) = [48]) ∨ goI (nat ((r.drop (spanR figI r)).headD 0)) = true then .err 5
  else .ok ⟨2, [], if m = true then - decR (r.take (spanR figI r)) else decR (r.take (spanR figI r)), [], 0⟩ (spanR figI r + if m = true then 1 else 0)
def numberR : List UInt8 → TR
  | [] => numK false []
  | c :: r => if c = 45 then numK true r else numK false (c :: r)
def hexI (x : Int) : Int := if 48 ≤ x ∧ x ≤ 57 then x - 48 else if 97 ≤ x ∧ x ≤ 102 then x - 87 else if 65 ≤ x ∧ x ≤ 70 then x - 55 else -1
inductive O1 where
  | byte (c : UInt8) (n : Nat)
  | var (x : List UInt8) (n : Nat)
  | err (e : Nat)
deriving DecidableEq, Repr
def hexR : List UInt8 → O1
  | [] => .err 3
  | [x] => if hexI (nat x) < 0 then .err 5 else .err 3
  | x :: y :: _ => if hexI (nat x) < 0 then .err 5 else if hexI (nat y) < 0 then .err 5 else .byte (UInt8.ofNat (16 * hexI (nat x) + hexI (nat y)).toNat) 4
def escR : List UInt8 → O1
  | [] => .err 3
  | d :: r => if d = 110 then .byte 10 2 else if d = 114 then .byte 13 2 else if d = 116 then .byte 9 2 else if d = 120 then hexR r
    else if d = 92 ∨ d = 34 ∨ d = 36 then .byte d 2 else .err 5
def varR : List UInt8 → O1
  | [] => .err 3
  | d :: r => if figI (nat d) = true then .var [d] 2 else if ltrI (nat d) = false then .err 5 else if 24 < spanR goI (d :: r) then .err 4 else .var ((d :: r).take (spanR goI (d :: r))) (spanR goI (d :: r) + 1)
def oneR : List UInt8 → O1
  | [] => .err 3
  | c :: r => if c = 36 then varR r else if c = 10 then .err 5 else if c = 92 then escR r else .byte c 1
def litP : List Pc → UInt8 → List Pc
  | [], c => [⟨[], [c]⟩]
  | [p], c => if p.var = [] then [⟨[], p.lit ++ [c]⟩] else [p, ⟨[], [c]⟩]
  | p :: q :: r, c => p :: litP (q :: r) c
def fitsP (P : List Pc) : Bool := decide (P.length ≤ 40) && P.all fun p => decide (p.lit.length ≤ 400)
def textR : Nat → List UInt8 → List Pc → Nat → TR
  | 0, _, _, _ => .err 3
  | _ + 1, [], _, _ => .err 3
  | f + 1, c :: r, P, n => if c = 34 then .ok ⟨3, [], 0, P, 0⟩ (n + 1) else
    match oneR (c :: r) with
    | .err e => .err e
    | .byte x k => if fitsP (litP P x) = true then textR f ((c :: r).drop k) (litP P x) (n + k) else .err 4
    | .var x k => if fitsP (P ++ [⟨x, []⟩]) = true then textR f ((c :: r).drop k) (P ++ [⟨x, []⟩]) (n + k) else .err 4
def signR : List UInt8 → TR
  | 61 :: 61 :: _ => .ok ⟨4, [61, 61], 0, [], 0⟩ 2
  | 33 :: 61 :: _ => .ok ⟨4, [33, 61], 0, [], 0⟩ 2
  | 60 :: 61 :: _ => .ok ⟨4, [60, 61], 0, [], 0⟩ 2
  | 62 :: 61 :: _ => .ok ⟨4, [62, 61], 0, [], 0⟩ 2
  | 123 :: _ => .ok ⟨4, [123], 0, [], 0⟩ 1
  | 125 :: _ => .ok ⟨4, [125], 0, [], 0⟩ 1
  | 60 :: _ => .ok ⟨4, [60], 0, [], 0⟩ 1
  | 62 :: _ => .ok ⟨4, [62], 0, [], 0⟩ 1
  | _ => .err 5
def tokR : List UInt8 → TR
  | [] => .err 5
  | c :: r => if c = 10 ∨ c = 59 then .ok ⟨5, [], 0, [], 0⟩ 1 else if ltrI (nat c) = true then nameR (c :: r) else if figI (nat c) = true ∨ c = 45 then numberR (c :: r)
    else if c = 34 then textR (r.length + 1) r [] 1 else signR (c :: r)
/-- All tokens from a place on; where what is wrong stands; its number. -/
def splitR : Nat → Nat → List UInt8 → List Wt × Nat × Nat
  | 0, _, _ => ([], 0, 0)
  | f + 1, a, l => match l.drop (gapR false l) with
    | [] => ([], 0, 0)
    | c :: r => match tokR (c :: r) with
      | .err e => ([], a + gapR false l, e)
      | .ok t n => match splitR f (a + gapR false l + n) ((c :: r).drop n) with
        | (T, p, 0) => ({ t with pos := a + gapR false l } :: T, p, 0)
        | (_, p, e + 1) => ([], p, e + 1)
def splitS (s : List UInt8) : List Wt × Nat × Nat := if 4000 < s.length then ([], 0, 4) else splitR (s.length + 1) 0 s
end WordR

set_option linter.unusedVariables false
set_option maxRecDepth 100000
namespace Go.Proofs.YtaleenklamognaaDoor
open Go.Sx Go.Shelf
def bdRen : Ren := ⟨fun | 169 => 69 | 240 => 100 | 276 => 122 | n => n, fun | 37 => 118 | 70 => 117 | 72 => 120 | 127 => 153 | 164 => 173 | n => n, fun | n => n⟩
theorem bdLays240 : Go.Proofs.Lays.n240 Tryd.prog bdRen := {
  mixed := by kernel_rfl
  f240 := Tryd.func100.trans (congrArg some (by kernel_rfl))
  f276 := Tryd.func122.trans (congrArg some (by kernel_rfl))
  t0 := Tryd.underlying0
  a0 := Tryd.isAgg0
  z0 := Tryd.sizeOf0
  v0 := Tryd.zeroValue0
  t4 := Tryd.underlying4
  a4 := Tryd.isAgg4
  z4 := Tryd.sizeOf4
  v4 := Tryd.zeroValue4
  t9 := Tryd.underlying9
  a9 := Tryd.isAgg9
  z9 := Tryd.sizeOf9
  v9 := Tryd.zeroValue9
  t20 := Tryd.underlying20
  a20 := Tryd.isAgg20
  z20 := Tryd.sizeOf20
  v20 := Tryd.zeroValue20
  t70 := Tryd.underlying117
  a70 := Tryd.isAgg117
  z70 := Tryd.sizeOf117
  v70 := Tryd.zeroValue117
  t72 := Tryd.underlying120
  a72 := Tryd.isAgg120
  z72 := Tryd.sizeOf120
  v72 := Tryd.zeroValue120
  t164 := Tryd.underlying173
  a164 := Tryd.isAgg173
  z164 := Tryd.sizeOf173
  v164 := Tryd.zeroValue173 }
theorem bdLays169 : Go.Proofs.Lays.n169 Tryd.prog bdRen := {
  mixed := by kernel_rfl
  f169 := Tryd.func69.trans (congrArg some (by kernel_rfl))
  t0 := Tryd.underlying0
  a0 := Tryd.isAgg0
  z0 := Tryd.sizeOf0
  v0 := Tryd.zeroValue0
  t3 := Tryd.underlying3
  a3 := Tryd.isAgg3
  z3 := Tryd.sizeOf3
  v3 := Tryd.zeroValue3
  t9 := Tryd.underlying9
  a9 := Tryd.isAgg9
  z9 := Tryd.sizeOf9
  v9 := Tryd.zeroValue9
  t37 := Tryd.underlying118
  a37 := Tryd.isAgg118
  z37 := Tryd.sizeOf118
  v37 := Tryd.zeroValue118
  t70 := Tryd.underlying117
  a70 := Tryd.isAgg117
  z70 := Tryd.sizeOf117
  v70 := Tryd.zeroValue117
  t72 := Tryd.underlying120
  a72 := Tryd.isAgg120
  z72 := Tryd.sizeOf120
  v72 := Tryd.zeroValue120
  t127 := Tryd.underlying153
  a127 := Tryd.isAgg153
  z127 := Tryd.sizeOf153
  v127 := Tryd.zeroValue153 }
theorem bdExtra : Go.Proofs.Builder.Extra Tryd.prog bdRen := {
  sizeBuilder := by kernel_rfl
  liesBuilder := by kernel_rfl
  t5 := Tryd.underlying5
  a5 := Tryd.isAgg5
  z5 := Tryd.sizeOf5
  v5 := Tryd.zeroValue5
  infoByte := by kernel_rfl
  cellsByte := by kernel_rfl
  sizeByte := by kernel_rfl
  neB5 := by decide }
theorem bdCk : ∀ args H x e d y, bldCk 120 args H x = .ok e d y → OkL d → (∀ a ∈ args, ∀ l ∈ a.labs, l < x.nl) → WFh (Sx.look H) x.nl → gtop Tryd.prog ≤ x.nl → CallOK Tryd.prog 100 args H x.nl e y.nl := by
  have h := bldCk_ok bdLays240 bdExtra.toX72
  rw [show bdRen.t 72 = 120 by kernel_rfl, show bdRen.f 240 = 100 by kernel_rfl] at h
  exact h
theorem bdStr : ∀ args H x e d y, bldStr 120 5 args H x = .ok e d y → OkL d → (∀ a ∈ args, ∀ l ∈ a.labs, l < x.nl) → WFh (Sx.look H) x.nl → gtop Tryd.prog ≤ x.nl → CallOK Tryd.prog 69 args H x.nl e y.nl := by
  have h := bldStr_ok bdLays169 bdExtra
  rw [show bdRen.t 72 = 120 by kernel_rfl, show bdRen.t 5 = 5 by kernel_rfl, show bdRen.f 169 = 69 by kernel_rfl] at h
  exact h
end Go.Proofs.YtaleenklamognaaDoor

set_option linter.unusedSimpArgs false
set_option linter.unusedVariables false
set_option maxRecDepth 100000
namespace Go.Proofs.YtaleenklamognaaDoor
open Go.Sx

theorem goodP : PGood Tryd.prog := good_of (by kernel_rfl) (by kernel_rfl)
theorem gtopP : gtop Tryd.prog ≤ 100 := of_decide_eq_true (by kernel_rfl)
theorem gtopG : gtop Tryd.prog = 46 := of_decide_eq_true (by kernel_rfl)
theorem gtL {n : Nat} (h : 46 ≤ n) : gtop Tryd.prog ≤ n := Nat.le_trans (Nat.le_of_eq gtopG) h
theorem baseO : Base0 Tryd.prog [] := Base0.nil goodP
abbrev YES : SV := .v (.vb fun _ => true)
abbrev vN (a : Int) : SV := .v (.vi .i64 fun _ => a)
abbrev vU (a : Int) : SV := .v (.vi .u8 fun _ => a)
abbrev vB (a : Bool) : SV := .v (.vb fun _ => a)
abbrev vS (a : List UInt8) : SV := .v (.vs fun _ => a)
abbrev vP (l : Nat) : SV := .v (.vp l (fun _ => 0) [])
abbrev vL (l w n : Nat) : SV := .v (.vl l (fun _ => 0) w [] (fun _ => n))
open WordR
def rdW (p : Nat) (s : List UInt8) (a : Int) : List Ent := [⟨p, true, none, 2, .tc (.vs fun _ => s) (.tc (.vi .i64 fun _ => a) .t0)⟩]
abbrev vF (f : Nat) : SV := .v (.vr (.func (.func f) #[] #[]))
def vErr (g : Nat) : Tr := .ve 213 (.vp (23 + g) (fun _ => 0) [])
theorem drop_at (bs : List UInt8) {i : Nat} (h : i < bs.length) : bs.drop i = bs.getD i 0 :: bs.drop (i + 1) := by
  rw [List.drop_eq_getElem_cons h]; simp [List.getD_eq_getElem?_getD, List.getElem?_eq_getElem h]
theorem span_y {p : Int → Bool} {s : List UInt8} {i : Nat} (h : i < s.length) (q : p ((s.getD i 0).toNat : Int) = true) : spanR p (s.drop i) = spanR p (s.drop (i + 1)) + 1 := by
  rw [drop_at s h, spanR]; exact if_pos q
theorem span_n {p : Int → Bool} {s : List UInt8} {i : Nat} (h : i < s.length) (q : p ((s.getD i 0).toNat : Int) = false) : spanR p (s.drop i) = 0 := by
  rw [drop_at s h, spanR]; exact if_neg (by show ¬ p ((s.getD i 0).toNat : Int) = true; rw [q]; decide)
theorem span_e {p : Int → Bool} {s : List UInt8} {i : Nat} (h : s.length ≤ i) : spanR p (s.drop i) = 0 := by
  rw [List.drop_eq_nil_of_le h]; rfl
theorem span_le (p : Int → Bool) : ∀ l : List UInt8, spanR p l ≤ l.length
  | [] => Nat.le_refl _
  | c :: r => by
    have := span_le p r
    rw [spanR]; split <;> simp only [List.length_cons] <;> omega
theorem span_le' (p : Int → Bool) (s : List UInt8) {a : Nat} (h : a ≤ s.length) : a + spanR p (s.drop a) ≤ s.length := by
  have := span_le p (s.drop a)
  rw [List.length_drop] at this; omega

variable (a i : Nat) (s : List UInt8) (x : Int)
abbrev wa1 := List.drop a (List.take i s) = List.drop (a : Int).toNat (List.take (i : Int).toNat s) ∧ s = s ∧ (i : Int) = (i : Int)
abbrev wa2 := (decide (0 ≤ (i : Int) ∧ (i : Int) ≤ (↑s.length : Int)), true)
abbrev wa3 := (decide (0 ≤ (i : Int) ∧ (i : Int) < (↑s.length : Int)), true)
abbrev wa4 := (decide (0 ≤ (a : Int) ∧ (a : Int) ≤ (i : Int)), true)
abbrev wa5 := Sx.look ([] ++ (rdW 63 s (i : Nat)))
abbrev wa6 := (↑(s.getD (i : Int).toNat (0 : UInt8)).toNat : Int)
abbrev wa7 := (!decide ((i : Int) ≥ (↑s.length : Int)), true)
abbrev wa8 := Sx.look ([] ++ (rdW 63 s (a : Nat)))
abbrev wa9 := (5, vN (a : Nat))
abbrev wa10 := Sx.look (rdW 63 s (i : Nat))
abbrev wa11 := 0 = 0 ∧ Value.func (Fn.func (68 : Nat)) #[] #[] = Value.func (Fn.func (68 : Nat)) #[] #[] ∧ (a : Int) = (a : Int)
abbrev wa12 := 0 = 0 ∧ Value.func (Fn.func (91 : Nat)) #[] #[] = Value.func (Fn.func (91 : Nat)) #[] #[] ∧ (a : Int) = (a : Int)
abbrev wa21 := [(0, vP 63), (1, vF 68), (wa9 a)]
abbrev wa13 := RunsTo Tryd.prog 86 (headOf Tryd.f86 0) (envAt Tryd.f86.ntmps (wa21 a)) (wa5 i s) 80 (vS ((s.take (i)).drop a)) (wa10 i s) 140
abbrev wa22 := [(0, vP 63), (1, vF 91), (wa9 a)]
abbrev wa14 := RunsTo Tryd.prog 86 (headOf Tryd.f86 0) (envAt Tryd.f86.ntmps (wa22 a)) (wa5 i s) 80 (vS ((s.take (i)).drop a)) (wa10 i s) 140
abbrev wa23 := [(0, vP 63), (1, vF 87), (wa9 a)]
abbrev wa15 := RunsTo Tryd.prog 86 (headOf Tryd.f86 0) (envAt Tryd.f86.ntmps (wa23 a)) (wa5 i s) 80 (vS ((s.take (i)).drop a)) (wa10 i s) 140
abbrev wa24 := [(0, vP 63), (1, vF 89), (wa9 a)]
abbrev wa16 := RunsTo Tryd.prog 86 (headOf Tryd.f86 0) (envAt Tryd.f86.ntmps (wa24 a)) (wa5 i s) 80 (vS ((s.take (i)).drop a)) (wa10 i s) 140
abbrev wa17 := 0 = 0 ∧ Value.func (Fn.func (87 : Nat)) #[] #[] = Value.func (Fn.func (87 : Nat)) #[] #[] ∧ (a : Int) = (a : Int)
abbrev wa18 := 0 = 0 ∧ Value.func (Fn.func (89 : Nat)) #[] #[] = Value.func (Fn.func (89 : Nat)) #[] #[] ∧ (a : Int) = (a : Int)
abbrev wa19 := (!decide ((i : Int) ≥ (↑s.length : Int)), false)
abbrev wa20 := Sx.look ([] ++ ([]))
abbrev wa25 := Sx.look ([] ++ (rdW 63 s (i + 1 : Nat)))
abbrev wa26 := ltrI x = (x == (95 : Int)) ∧ True
set_option maxHeartbeats 4000000 in
theorem bgT (x : Int)  :
    (RunsTo Tryd.prog 66 [.code (bodyOf Tryd.f66)] (envOf [vU x] Tryd.f66.ntmps) wa20 80 (vB (ltrI x)) (Sx.look ([])) 90) := by
  refine bcase (fun gg0 => (bcase (fun gg1 => (rEn baseO 300 (99) 900 80 (hI 2 0) ([]) [(decide (x ≥ (97 : Int)), false), (decide (x ≥ (65 : Int)), false)] (wa26 x) (oc2 gg0 gg1 okn) ?_)) fun gg1 => (bcase (fun gg2 => (rEn baseO 300 (99) 900 80 (hI 3 4) ([]) [(decide (x ≥ (97 : Int)), false), (decide (x ≥ (65 : Int)), true), (decide (x ≤ (90 : Int)), false)] (wa26 x) (oc3 gg0 gg1 gg2 okn) ?_)) fun gg2 => (rEn baseO 300 (99) 900 80 (hI 3 20) ([]) [(decide (x ≥ (97 : Int)), false), (decide (x ≥ (65 : Int)), true), (decide (x ≤ (90 : Int)), true)] (ltrI x = true ∧ True) (oc3 gg0 gg1 gg2 okn) ?_)))) fun gg0 => (bcase (fun gg1 => (rEn baseO 300 (99) 900 80 (hI 4 17) ([]) [(decide (x ≥ (97 : Int)), true), (decide (x ≤ (122 : Int)), false), (decide (x ≥ (65 : Int)), true), (decide (x ≤ (90 : Int)), false)] (wa26 x) (oc4 gg0 gg1 ?_ ?_ okn) ?_)) fun gg1 => (rEn baseO 300 (99) 900 80 (hI 2 5) ([]) [(decide (x ≥ (97 : Int)), true), (decide (x ≤ (122 : Int)), true)] (ltrI x = true ∧ True) (oc2 gg0 gg1 okn) ?_))
  all_goals try dsimp only [wa26] at *
  all_goals exact sc1

def bgP : PC := { args := [.v (.vi .u8 0)], heap := [], gs := [], G := 23, tp := 213, n := 80, n' := 90, cond := fun e => true, v := fun e => vB (ltrI (eI e 0 [])), post := fun e => [] }
theorem bgP_pc : PC.Runs Tryd.prog 66 Tryd.f66 (bodyOf Tryd.f66) bgP := ⟨Tryd.func66, by kernel_rfl, (fun g hg => by first | (cases hg; done) | (revert g; show ∀ g ∈ ([] : List Nat), g < 23; decide)), fun e H hc => by
  have hc : (true) = true := hc
  try simp only [Bool.and_eq_true, decide_eq_true_eq, Nat.beq_eq] at hc
  exact bgT (eI e 0 [])⟩

set_option maxHeartbeats 4000000 in
theorem fgT (x : Int)  :
    (RunsTo Tryd.prog 91 [.code (bodyOf Tryd.f91)] (envOf [vU x] Tryd.f91.ntmps) wa20 80 (vB (figI x)) (Sx.look ([])) 90) := by
  refine bcase (fun gg0 => (rEn baseO 300 (99) 900 80 (hI 1 0) ([]) [(decide (x ≥ (48 : Int)), false)] (figI x = false ∧ True) (oc1 gg0 okn) ?_)) fun gg0 => (rEn baseO 300 (99) 900 80 (hI 1 1) ([]) [(decide (x ≥ (48 : Int)), true)] (figI x = decide (x ≤ (57 : Int)) ∧ True) (oc1 gg0 okn) ?_)
  all_goals exact sc2

def fgP : PC := { args := [.v (.vi .u8 0)], heap := [], gs := [], G := 23, tp := 213, n := 80, n' := 90, cond := fun e => true, v := fun e => vB (figI (eI e 0 [])), post := fun e => [] }
theorem fgP_pc : PC.Runs Tryd.prog 91 Tryd.f91 (bodyOf Tryd.f91) fgP := ⟨Tryd.func91, by kernel_rfl, (fun g hg => by first | (cases hg; done) | (revert g; show ∀ g ∈ ([] : List Nat), g < 23; decide)), fun e H hc => by
  have hc : (true) = true := hc
  try simp only [Bool.and_eq_true, decide_eq_true_eq, Nat.beq_eq] at hc
  exact fgT (eI e 0 [])⟩
def sumsGO : List (FuncId × Summ) := [(66, bgP.summ 46), (91, fgP.summ 46)]
theorem baseGO : Base0 Tryd.prog sumsGO := ((baseO.cons Tryd.func91 (by kernel_rfl) (PC.summ_ok fgP_pc gtopG)).cons Tryd.func66 (by kernel_rfl) (PC.summ_ok bgP_pc gtopG))

set_option maxHeartbeats 4000000 in
theorem goT (x : Int)  :
    (RunsTo Tryd.prog 68 [.code (bodyOf Tryd.f68)] (envOf [vU x] Tryd.f68.ntmps) wa20 80 (vB (goI x)) (Sx.look ([])) 110) := by
  refine bcase (fun gg0 => (rEn baseGO 300 (99) 900 80 (hI 3 51) ([]) [(ltrI x, false)] (goI x = figI x ∧ True) (oc1 gg0 okn) ?_)) fun gg0 => (rEn baseGO 300 (99) 900 80 (hI 2 7) ([]) [(ltrI x, true)] (goI x = true ∧ True) (oc1 gg0 okn) ?_)
  all_goals exact sc3

def goP : PC := { args := [.v (.vi .u8 0)], heap := [], gs := [], G := 23, tp := 213, n := 80, n' := 110, cond := fun e => true, v := fun e => vB (goI (eI e 0 [])), post := fun e => [] }
theorem goP_pc : PC.Runs Tryd.prog 68 Tryd.f68 (bodyOf Tryd.f68) goP := ⟨Tryd.func68, by kernel_rfl, (fun g hg => by first | (cases hg; done) | (revert g; show ∀ g ∈ ([] : List Nat), g < 23; decide)), fun e H hc => by
  have hc : (true) = true := hc
  try simp only [Bool.and_eq_true, decide_eq_true_eq, Nat.beq_eq] at hc
  exact goT (eI e 0 [])⟩

set_option maxHeartbeats 4000000 in
theorem blT (x : Int)  :
    (RunsTo Tryd.prog 87 [.code (bodyOf Tryd.f87)] (envOf [vU x] Tryd.f87.ntmps) wa20 80 (vB (blI x)) (Sx.look ([])) 90) := by
  refine bcase (fun gg0 => (bcase (fun gg1 => (rEn baseO 300 (99) 900 80 (hI 2 0) ([]) [(x == (32 : Int), false), (x == (9 : Int), false)] (blI x = (x == (13 : Int)) ∧ True) (oc2 gg0 gg1 okn) ?_)) fun gg1 => (rEn baseO 300 (99) 900 80 (hI 2 4) ([]) [(x == (32 : Int), false), (x == (9 : Int), true)] (blI x = true ∧ True) (oc2 gg0 gg1 okn) ?_))) fun gg0 => (rEn baseO 300 (99) 900 80 (hI 1 1) ([]) [(x == (32 : Int), true)] (blI x = true ∧ True) (oc1 gg0 okn) ?_)
  all_goals exact sc4

def blP : PC := { args := [.v (.vi .u8 0)], heap := [], gs := [], G := 23, tp := 213, n := 80, n' := 90, cond := fun e => true, v := fun e => vB (blI (eI e 0 [])), post := fun e => [] }
theorem blP_pc : PC.Runs Tryd.prog 87 Tryd.f87 (bodyOf Tryd.f87) blP := ⟨Tryd.func87, by kernel_rfl, (fun g hg => by first | (cases hg; done) | (revert g; show ∀ g ∈ ([] : List Nat), g < 23; decide)), fun e H hc => by
  have hc : (true) = true := hc
  try simp only [Bool.and_eq_true, decide_eq_true_eq, Nat.beq_eq] at hc
  exact blT (eI e 0 [])⟩

set_option maxHeartbeats 4000000 in
theorem nlT (x : Int)  :
    (RunsTo Tryd.prog 89 [.code (bodyOf Tryd.f89)] (envOf [vU x] Tryd.f89.ntmps) wa20 80 (vB (nlI x)) (Sx.look ([])) 90) := by
  refine rEn baseO 300 (99) 900 80 (hI 0 0) ([]) [] (nlI x = (x != (10 : Int)) ∧ True) okn ?_
  all_goals exact sc5

def nlP : PC := { args := [.v (.vi .u8 0)], heap := [], gs := [], G := 23, tp := 213, n := 80, n' := 90, cond := fun e => true, v := fun e => vB (nlI (eI e 0 [])), post := fun e => [] }
theorem nlP_pc : PC.Runs Tryd.prog 89 Tryd.f89 (bodyOf Tryd.f89) nlP := ⟨Tryd.func89, by kernel_rfl, (fun g hg => by first | (cases hg; done) | (revert g; show ∀ g ∈ ([] : List Nat), g < 23; decide)), fun e H hc => by
  have hc : (true) = true := hc
  try simp only [Bool.and_eq_true, decide_eq_true_eq, Nat.beq_eq] at hc
  exact nlT (eI e 0 [])⟩
def sumswhG : List (FuncId × Summ) := [(68, goP.summ 46)]
theorem basewhG : Base0 Tryd.prog sumswhG := (baseO.cons Tryd.func68 (by kernel_rfl) (PC.summ_ok goP_pc gtopG))

set_option maxHeartbeats 4000000 in
theorem whG0 (s : List UInt8) (a : Nat) (ha : a ≤ s.length) (hs : s.length ≤ 100000)  (v : SV) (L' : HF) (next : (RunsTo Tryd.prog 86 (headOf Tryd.f86 0) (envAt Tryd.f86.ntmps (wa21 a)) (wa8 a s) 80 (v) (L') 140)) :
    (RunsTo Tryd.prog 86 [.code (bodyOf Tryd.f86)] (envOf [vP 63, vF 68] Tryd.f86.ntmps) (wa8 a s) 80 (v) (L') 140) := by
  refine rMo basewhG 300 (behind Tryd.f86 0) 900 80 (hI 0 0) ([]) [] ((wa11 a) ∧ s = s ∧ (a : Int) = (a : Int)) next okn ?_
  all_goals clear next; try dsimp only [wa11]
  all_goals exact sc6

set_option maxHeartbeats 4000000 in
theorem whG1 (s : List UInt8) (a : Nat) (i : Nat) (hi : i < s.length) (hs : s.length ≤ 100000) (h : goI ((s.getD i 0).toNat : Int) = true)  (v : SV) (L' : HF) (next : (RunsTo Tryd.prog 86 (headOf Tryd.f86 0) (envAt Tryd.f86.ntmps (wa21 a)) (wa25 i s) 80 (v) (L') 140)) :
    (RunsTo Tryd.prog 86 (headOf Tryd.f86 0) (envAt Tryd.f86.ntmps (wa21 a)) (wa5 i s) 80 (v) (L') 140) := by
  have hw : IntKind.i64.wrap ((i : Int) + 1) = ((i + 1 : Nat) : Int) := by rw [wr64 (by omega)]; rfl
  have E' := (⟨hw, h⟩ : _ ∧ _)
  refine rMo basewhG 300 (behind Tryd.f86 0) 900 110 (hI 4 117) ([]) [(wa7 i s), (wa3 i s), (goI (wa6 i s), true)] ((wa11 a) ∧ s = s ∧ (↑(i + (1 : Nat)) : Int) = IntKind.i64.wrap ((i : Int) + 1)) next (oc3 ?_ ?_ ?_ okn) ?_
  all_goals clear next; try dsimp only [wa7, wa3, wa6, wa11]
  all_goals exact sc7

set_option maxHeartbeats 4000000 in
theorem whG2 (s : List UInt8) (a : Nat) (i : Nat) (hi : i = s.length) (ha : a ≤ i)  :
    (wa13 a i s) := by
  refine rEn basewhG 300 (99) 900 110 (hI 3 20) ([]) [(wa19 i s), (wa2 i s), (wa4 a i)] (wa1 a i s) (oc3 ?_ ?_ ?_ okn) ?_
  all_goals try dsimp only [wa19, wa2, wa4, wa1]
  all_goals exact sc6

set_option maxHeartbeats 4000000 in
theorem whG3 (s : List UInt8) (a : Nat) (i : Nat) (hi : i < s.length) (ha : a ≤ i) (h : goI ((s.getD i 0).toNat : Int) = false)  :
    (wa13 a i s) := by
  have E' := h
  refine rEn basewhG 300 (99) 900 110 (hI 6 1333) ([]) [(wa7 i s), (wa3 i s), (goI (wa6 i s), false), (wa2 i s), (wa4 a i)] (wa1 a i s) (oc5 ?_ ?_ ?_ ?_ ?_ okn) ?_
  all_goals try dsimp only [wa7, wa3, wa6, wa2, wa4, wa1]
  all_goals exact sc7

theorem whGI (s : List UInt8) (a : Nat) (ha : a ≤ s.length) (hs : s.length ≤ 100000) : RunsTo Tryd.prog 86 [.code (bodyOf Tryd.f86)] (envOf [vP 63, vF 68] Tryd.f86.ntmps) (Sx.look ([] ++ (rdW 63 s (a : Nat)))) 80 (vS ((s.take (a + spanR goI (s.drop a))).drop a)) (Sx.look (rdW 63 s (a + spanR goI (s.drop a) : Nat))) 140 := by
  refine whG0 s a ha hs _ _ ?_
  suffices q : ∀ (k i : Nat), i + k = s.length → a ≤ i → RunsTo Tryd.prog 86 (headOf Tryd.f86 0) (envAt Tryd.f86.ntmps ([(0, vP 63), (1, vF 68), (5, vN (a : Nat))])) (Sx.look ([] ++ (rdW 63 s (i : Nat)))) 80 (vS ((s.take (i + spanR goI (s.drop i))).drop a)) (Sx.look (rdW 63 s (i + spanR goI (s.drop i) : Nat))) 140 from q (s.length - a) a (by omega) (Nat.le_refl _)
  intro k
  induction k with
  | zero =>
    intro i hi hai
    rw [span_e (by omega), Nat.add_zero]
    exact whG2 s a i (by omega) hai
  | succ k ih =>
    intro i hi hai
    cases h : goI ((s.getD i 0).toNat : Int) with
    | true =>
      rw [span_y (by omega) h, show ∀ x, i + (x + 1) = i + 1 + x by omega]
      exact whG1 s a i (by omega) hs h _ _ (ih (i + 1) (by omega) (by omega))
    | false =>
      rw [span_n (by omega) h, Nat.add_zero]
      exact whG3 s a i (by omega) hai h
def whGP : PC := { args := [.v (.vp 63), .v (.vq 68)], heap := [⟨63, true, 2, .tc (.vs 0) (.tc (.vi .i64 1) .t0)⟩], gs := [], G := 23, tp := 213, n := 80, n' := 140, cond := fun e => decide (0 ≤ eI e 1 []) && (decide ((eI e 1 []).toNat ≤ (eS e 0 []).length) && decide ((eS e 0 []).length ≤ 100000)), v := fun e => vS (((eS e 0 []).take ((eI e 1 []).toNat + spanR goI ((eS e 0 []).drop (eI e 1 []).toNat))).drop ((eI e 1 []).toNat)), post := fun e => rdW 63 (eS e 0 []) (((eI e 1 []).toNat + spanR goI ((eS e 0 []).drop (eI e 1 []).toNat)) : Nat) }
theorem whGP_pc : PC.Runs Tryd.prog 86 Tryd.f86 (bodyOf Tryd.f86) whGP := ⟨Tryd.func86, by kernel_rfl, (fun g hg => by first | (cases hg; done) | (revert g; show ∀ g ∈ ([] : List Nat), g < 23; decide)), fun e H hc => by
  have hc : (decide (0 ≤ eI e 1 []) && (decide ((eI e 1 []).toNat ≤ (eS e 0 []).length) && decide ((eS e 0 []).length ≤ 100000))) = true := hc
  try simp only [Bool.and_eq_true, decide_eq_true_eq, Nat.beq_eq] at hc
  exact by obtain ⟨h1, h2, h3⟩ := hc; have hj : ((eI e 1 []).toNat : Int) = eI e 1 [] := Int.toNat_of_nonneg h1; have q := whGI (eS e 0 []) (eI e 1 []).toNat h2 h3; rw [hj] at q; exact q⟩
def sumswhF : List (FuncId × Summ) := [(91, fgP.summ 46)]
theorem basewhF : Base0 Tryd.prog sumswhF := (baseO.cons Tryd.func91 (by kernel_rfl) (PC.summ_ok fgP_pc gtopG))

set_option maxHeartbeats 4000000 in
theorem whF0 (s : List UInt8) (a : Nat) (ha : a ≤ s.length) (hs : s.length ≤ 100000)  (v : SV) (L' : HF) (next : (RunsTo Tryd.prog 86 (headOf Tryd.f86 0) (envAt Tryd.f86.ntmps (wa22 a)) (wa8 a s) 80 (v) (L') 140)) :
    (RunsTo Tryd.prog 86 [.code (bodyOf Tryd.f86)] (envOf [vP 63, vF 91] Tryd.f86.ntmps) (wa8 a s) 80 (v) (L') 140) := by
  refine rMo basewhF 300 (behind Tryd.f86 0) 900 80 (hI 0 0) ([]) [] ((wa12 a) ∧ s = s ∧ (a : Int) = (a : Int)) next okn ?_
  all_goals clear next; try dsimp only [wa12]
  all_goals exact sc6

set_option maxHeartbeats 4000000 in
theorem whF1 (s : List UInt8) (a : Nat) (i : Nat) (hi : i < s.length) (hs : s.length ≤ 100000) (h : figI ((s.getD i 0).toNat : Int) = true)  (v : SV) (L' : HF) (next : (RunsTo Tryd.prog 86 (headOf Tryd.f86 0) (envAt Tryd.f86.ntmps (wa22 a)) (wa25 i s) 80 (v) (L') 140)) :
    (RunsTo Tryd.prog 86 (headOf Tryd.f86 0) (envAt Tryd.f86.ntmps (wa22 a)) (wa5 i s) 80 (v) (L') 140) := by
  have hw : IntKind.i64.wrap ((i : Int) + 1) = ((i + 1 : Nat) : Int) := by rw [wr64 (by omega)]; rfl
  have E' := (⟨hw, h⟩ : _ ∧ _)
  refine rMo basewhF 300 (behind Tryd.f86 0) 900 110 (hI 4 117) ([]) [(wa7 i s), (wa3 i s), (figI (wa6 i s), true)] ((wa12 a) ∧ s = s ∧ (↑(i + (1 : Nat)) : Int) = IntKind.i64.wrap ((i : Int) + 1)) next (oc3 ?_ ?_ ?_ okn) ?_
  all_goals clear next; try dsimp only [wa7, wa3, wa6, wa12]
  all_goals exact sc7

set_option maxHeartbeats 4000000 in
theorem whF2 (s : List UInt8) (a : Nat) (i : Nat) (hi : i = s.length) (ha : a ≤ i)  :
    (wa14 a i s) := by
  refine rEn basewhF 300 (99) 900 110 (hI 3 20) ([]) [(wa19 i s), (wa2 i s), (wa4 a i)] (wa1 a i s) (oc3 ?_ ?_ ?_ okn) ?_
  all_goals try dsimp only [wa19, wa2, wa4, wa1]
  all_goals exact sc6

set_option maxHeartbeats 4000000 in
theorem whF3 (s : List UInt8) (a : Nat) (i : Nat) (hi : i < s.length) (ha : a ≤ i) (h : figI ((s.getD i 0).toNat : Int) = false)  :
    (wa14 a i s) := by
  have E' := h
  refine rEn basewhF 300 (99) 900 110 (hI 6 1333) ([]) [(wa7 i s), (wa3 i s), (figI (wa6 i s), false), (wa2 i s), (wa4 a i)] (wa1 a i s) (oc5 ?_ ?_ ?_ ?_ ?_ okn) ?_
  all_goals try dsimp only [wa7, wa3, wa6, wa2, wa4, wa1]
  all_goals exact sc7

theorem whFI (s : List UInt8) (a : Nat) (ha : a ≤ s.length) (hs : s.length ≤ 100000) : RunsTo Tryd.prog 86 [.code (bodyOf Tryd.f86)] (envOf [vP 63, vF 91] Tryd.f86.ntmps) (Sx.look ([] ++ (rdW 63 s (a : Nat)))) 80 (vS ((s.take (a + spanR figI (s.drop a))).drop a)) (Sx.look (rdW 63 s (a + spanR figI (s.drop a) : Nat))) 140 := by
  refine whF0 s a ha hs _ _ ?_
  suffices q : ∀ (k i : Nat), i + k = s.length → a ≤ i → RunsTo Tryd.prog 86 (headOf Tryd.f86 0) (envAt Tryd.f86.ntmps ([(0, vP 63), (1, vF 91), (5, vN (a : Nat))])) (Sx.look ([] ++ (rdW 63 s (i : Nat)))) 80 (vS ((s.take (i + spanR figI (s.drop i))).drop a)) (Sx.look (rdW 63 s (i + spanR figI (s.drop i) : Nat))) 140 from q (s.length - a) a (by omega) (Nat.le_refl _)
  intro k
  induction k with
  | zero =>
    intro i hi hai
    rw [span_e (by omega), Nat.add_zero]
    exact whF2 s a i (by omega) hai
  | succ k ih =>
    intro i hi hai
    cases h : figI ((s.getD i 0).toNat : Int) with
    | true =>
      rw [span_y (by omega) h, show ∀ x, i + (x + 1) = i + 1 + x by omega]
      exact whF1 s a i (by omega) hs h _ _ (ih (i + 1) (by omega) (by omega))
    | false =>
      rw [span_n (by omega) h, Nat.add_zero]
      exact whF3 s a i (by omega) hai h
def whFP : PC := { args := [.v (.vp 63), .v (.vq 91)], heap := [⟨63, true, 2, .tc (.vs 0) (.tc (.vi .i64 1) .t0)⟩], gs := [], G := 23, tp := 213, n := 80, n' := 140, cond := fun e => decide (0 ≤ eI e 1 []) && (decide ((eI e 1 []).toNat ≤ (eS e 0 []).length) && decide ((eS e 0 []).length ≤ 100000)), v := fun e => vS (((eS e 0 []).take ((eI e 1 []).toNat + spanR figI ((eS e 0 []).drop (eI e 1 []).toNat))).drop ((eI e 1 []).toNat)), post := fun e => rdW 63 (eS e 0 []) (((eI e 1 []).toNat + spanR figI ((eS e 0 []).drop (eI e 1 []).toNat)) : Nat) }
theorem whFP_pc : PC.Runs Tryd.prog 86 Tryd.f86 (bodyOf Tryd.f86) whFP := ⟨Tryd.func86, by kernel_rfl, (fun g hg => by first | (cases hg; done) | (revert g; show ∀ g ∈ ([] : List Nat), g < 23; decide)), fun e H hc => by
  have hc : (decide (0 ≤ eI e 1 []) && (decide ((eI e 1 []).toNat ≤ (eS e 0 []).length) && decide ((eS e 0 []).length ≤ 100000))) = true := hc
  try simp only [Bool.and_eq_true, decide_eq_true_eq, Nat.beq_eq] at hc
  exact by obtain ⟨h1, h2, h3⟩ := hc; have hj : ((eI e 1 []).toNat : Int) = eI e 1 [] := Int.toNat_of_nonneg h1; have q := whFI (eS e 0 []) (eI e 1 []).toNat h2 h3; rw [hj] at q; exact q⟩
def sumswhB : List (FuncId × Summ) := [(87, blP.summ 46)]
theorem basewhB : Base0 Tryd.prog sumswhB := (baseO.cons Tryd.func87 (by kernel_rfl) (PC.summ_ok blP_pc gtopG))

set_option maxHeartbeats 4000000 in
theorem whB0 (s : List UInt8) (a : Nat) (ha : a ≤ s.length) (hs : s.length ≤ 100000)  (v : SV) (L' : HF) (next : (RunsTo Tryd.prog 86 (headOf Tryd.f86 0) (envAt Tryd.f86.ntmps (wa23 a)) (wa8 a s) 80 (v) (L') 140)) :
    (RunsTo Tryd.prog 86 [.code (bodyOf Tryd.f86)] (envOf [vP 63, vF 87] Tryd.f86.ntmps) (wa8 a s) 80 (v) (L') 140) := by
  refine rMo basewhB 300 (behind Tryd.f86 0) 900 80 (hI 0 0) ([]) [] ((wa17 a) ∧ s = s ∧ (a : Int) = (a : Int)) next okn ?_
  all_goals clear next; try dsimp only [wa17]
  all_goals exact sc6

set_option maxHeartbeats 4000000 in
theorem whB1 (s : List UInt8) (a : Nat) (i : Nat) (hi : i < s.length) (hs : s.length ≤ 100000) (h : blI ((s.getD i 0).toNat : Int) = true)  (v : SV) (L' : HF) (next : (RunsTo Tryd.prog 86 (headOf Tryd.f86 0) (envAt Tryd.f86.ntmps (wa23 a)) (wa25 i s) 80 (v) (L') 140)) :
    (RunsTo Tryd.prog 86 (headOf Tryd.f86 0) (envAt Tryd.f86.ntmps (wa23 a)) (wa5 i s) 80 (v) (L') 140) := by
  have hw : IntKind.i64.wrap ((i : Int) + 1) = ((i + 1 : Nat) : Int) := by rw [wr64 (by omega)]; rfl
  have E' := (⟨hw, h⟩ : _ ∧ _)
  refine rMo basewhB 300 (behind Tryd.f86 0) 900 110 (hI 4 117) ([]) [(wa7 i s), (wa3 i s), (blI (wa6 i s), true)] ((wa17 a) ∧ s = s ∧ (↑(i + (1 : Nat)) : Int) = IntKind.i64.wrap ((i : Int) + 1)) next (oc3 ?_ ?_ ?_ okn) ?_
  all_goals clear next; try dsimp only [wa7, wa3, wa6, wa17]
  all_goals exact sc7

set_option maxHeartbeats 4000000 in
theorem whB2 (s : List UInt8) (a : Nat) (i : Nat) (hi : i = s.length) (ha : a ≤ i)  :
    (wa15 a i s) := by
  refine rEn basewhB 300 (99) 900 110 (hI 3 20) ([]) [(wa19 i s), (wa2 i s), (wa4 a i)] (wa1 a i s) (oc3 ?_ ?_ ?_ okn) ?_
  all_goals try dsimp only [wa19, wa2, wa4, wa1]
  all_goals exact sc6

set_option maxHeartbeats 4000000 in
theorem whB3 (s : List UInt8) (a : Nat) (i : Nat) (hi : i < s.length) (ha : a ≤ i) (h : blI ((s.getD i 0).toNat : Int) = false)  :
    (wa15 a i s) := by
  have E' := h
  refine rEn basewhB 300 (99) 900 110 (hI 6 1333) ([]) [(wa7 i s), (wa3 i s), (blI (wa6 i s), false), (wa2 i s), (wa4 a i)] (wa1 a i s) (oc5 ?_ ?_ ?_ ?_ ?_ okn) ?_
  all_goals try dsimp only [wa7, wa3, wa6, wa2, wa4, wa1]
  all_goals exact sc7

theorem whBI (s : List UInt8) (a : Nat) (ha : a ≤ s.length) (hs : s.length ≤ 100000) : RunsTo Tryd.prog 86 [.code (bodyOf Tryd.f86)] (envOf [vP 63, vF 87] Tryd.f86.ntmps) (Sx.look ([] ++ (rdW 63 s (a : Nat)))) 80 (vS ((s.take (a + spanR blI (s.drop a))).drop a)) (Sx.look (rdW 63 s (a + spanR blI (s.drop a) : Nat))) 140 := by
  refine whB0 s a ha hs _ _ ?_
  suffices q : ∀ (k i : Nat), i + k = s.length → a ≤ i → RunsTo Tryd.prog 86 (headOf Tryd.f86 0) (envAt Tryd.f86.ntmps ([(0, vP 63), (1, vF 87), (5, vN (a : Nat))])) (Sx.look ([] ++ (rdW 63 s (i : Nat)))) 80 (vS ((s.take (i + spanR blI (s.drop i))).drop a)) (Sx.look (rdW 63 s (i + spanR blI (s.drop i) : Nat))) 140 from q (s.length - a) a (by omega) (Nat.le_refl _)
  intro k
  induction k with
  | zero =>
    intro i hi hai
    rw [span_e (by omega), Nat.add_zero]
    exact whB2 s a i (by omega) hai
  | succ k ih =>
    intro i hi hai
    cases h : blI ((s.getD i 0).toNat : Int) with
    | true =>
      rw [span_y (by omega) h, show ∀ x, i + (x + 1) = i + 1 + x by omega]
      exact whB1 s a i (by omega) hs h _ _ (ih (i + 1) (by omega) (by omega))
    | false =>
      rw [span_n (by omega) h, Nat.add_zero]
      exact whB3 s a i (by omega) hai h
def whBP : PC := { args := [.v (.vp 63), .v (.vq 87)], heap := [⟨63, true, 2, .tc (.vs 0) (.tc (.vi .i64 1) .t0)⟩], gs := [], G := 23, tp := 213, n := 80, n' := 140, cond := fun e => decide (0 ≤ eI e 1 []) && (decide ((eI e 1 []).toNat ≤ (eS e 0 []).length) && decide ((eS e 0 []).length ≤ 100000)), v := fun e => vS (((eS e 0 []).take ((eI e 1 []).toNat + spanR blI ((eS e 0 []).drop (eI e 1 []).toNat))).drop ((eI e 1 []).toNat)), post := fun e => rdW 63 (eS e 0 []) (((eI e 1 []).toNat + spanR blI ((eS e 0 []).drop (eI e 1 []).toNat)) : Nat) }
theorem whBP_pc : PC.Runs Tryd.prog 86 Tryd.f86 (bodyOf Tryd.f86) whBP := ⟨Tryd.func86, by kernel_rfl, (fun g hg => by first | (cases hg; done) | (revert g; show ∀ g ∈ ([] : List Nat), g < 23; decide)), fun e H hc => by
  have hc : (decide (0 ≤ eI e 1 []) && (decide ((eI e 1 []).toNat ≤ (eS e 0 []).length) && decide ((eS e 0 []).length ≤ 100000))) = true := hc
  try simp only [Bool.and_eq_true, decide_eq_true_eq, Nat.beq_eq] at hc
  exact by obtain ⟨h1, h2, h3⟩ := hc; have hj : ((eI e 1 []).toNat : Int) = eI e 1 [] := Int.toNat_of_nonneg h1; have q := whBI (eS e 0 []) (eI e 1 []).toNat h2 h3; rw [hj] at q; exact q⟩
def sumswhN : List (FuncId × Summ) := [(89, nlP.summ 46)]
theorem basewhN : Base0 Tryd.prog sumswhN := (baseO.cons Tryd.func89 (by kernel_rfl) (PC.summ_ok nlP_pc gtopG))

set_option maxHeartbeats 4000000 in
theorem whN0 (s : List UInt8) (a : Nat) (ha : a ≤ s.length) (hs : s.length ≤ 100000)  (v : SV) (L' : HF) (next : (RunsTo Tryd.prog 86 (headOf Tryd.f86 0) (envAt Tryd.f86.ntmps (wa24 a)) (wa8 a s) 80 (v) (L') 140)) :
    (RunsTo Tryd.prog 86 [.code (bodyOf Tryd.f86)] (envOf [vP 63, vF 89] Tryd.f86.ntmps) (wa8 a s) 80 (v) (L') 140) := by
  refine rMo basewhN 300 (behind Tryd.f86 0) 900 80 (hI 0 0) ([]) [] ((wa18 a) ∧ s = s ∧ (a : Int) = (a : Int)) next okn ?_
  all_goals clear next; try dsimp only [wa18]
  all_goals exact sc6

set_option maxHeartbeats 4000000 in
theorem whN1 (s : List UInt8) (a : Nat) (i : Nat) (hi : i < s.length) (hs : s.length ≤ 100000) (h : nlI ((s.getD i 0).toNat : Int) = true)  (v : SV) (L' : HF) (next : (RunsTo Tryd.prog 86 (headOf Tryd.f86 0) (envAt Tryd.f86.ntmps (wa24 a)) (wa25 i s) 80 (v) (L') 140)) :
    (RunsTo Tryd.prog 86 (headOf Tryd.f86 0) (envAt Tryd.f86.ntmps (wa24 a)) (wa5 i s) 80 (v) (L') 140) := by
  have hw : IntKind.i64.wrap ((i : Int) + 1) = ((i + 1 : Nat) : Int) := by rw [wr64 (by omega)]; rfl
  have E' := (⟨hw, h⟩ : _ ∧ _)
  refine rMo basewhN 300 (behind Tryd.f86 0) 900 110 (hI 4 117) ([]) [(wa7 i s), (wa3 i s), (nlI (wa6 i s), true)] ((wa18 a) ∧ s = s ∧ (↑(i + (1 : Nat)) : Int) = IntKind.i64.wrap ((i : Int) + 1)) next (oc3 ?_ ?_ ?_ okn) ?_
  all_goals clear next; try dsimp only [wa7, wa3, wa6, wa18]
  all_goals exact sc7

set_option maxHeartbeats 4000000 in
theorem whN2 (s : List UInt8) (a : Nat) (i : Nat) (hi : i = s.length) (ha : a ≤ i)  :
    (wa16 a i s) := by
  refine rEn basewhN 300 (99) 900 110 (hI 3 20) ([]) [(wa19 i s), (wa2 i s), (wa4 a i)] (wa1 a i s) (oc3 ?_ ?_ ?_ okn) ?_
  all_goals try dsimp only [wa19, wa2, wa4, wa1]
  all_goals exact sc6

set_option maxHeartbeats 4000000 in
theorem whN3 (s : List UInt8) (a : Nat) (i : Nat) (hi : i < s.length) (ha : a ≤ i) (h : nlI ((s.getD i 0).toNat : Int) = false)  :
    (wa16 a i s) := by
  have E' := h
  refine rEn basewhN 300 (99) 900 110 (hI 6 1333) ([]) [(wa7 i s), (wa3 i s), (nlI (wa6 i s), false), (wa2 i s), (wa4 a i)] (wa1 a i s) (oc5 ?_ ?_ ?_ ?_ ?_ okn) ?_
  all_goals try dsimp only [wa7, wa3, wa6, wa2, wa4, wa1]
  all_goals exact sc7

theorem whNI (s : List UInt8) (a : Nat) (ha : a ≤ s.length) (hs : s.length ≤ 100000) : RunsTo Tryd.prog 86 [.code (bodyOf Tryd.f86)] (envOf [vP 63, vF 89] Tryd.f86.ntmps) (Sx.look ([] ++ (rdW 63 s (a : Nat)))) 80 (vS ((s.take (a + spanR nlI (s.drop a))).drop a)) (Sx.look (rdW 63 s (a + spanR nlI (s.drop a) : Nat))) 140 := by
  refine whN0 s a ha hs _ _ ?_
  suffices q : ∀ (k i : Nat), i + k = s.length → a ≤ i → RunsTo Tryd.prog 86 (headOf Tryd.f86 0) (envAt Tryd.f86.ntmps ([(0, vP 63), (1, vF 89), (5, vN (a : Nat))])) (Sx.look ([] ++ (rdW 63 s (i : Nat)))) 80 (vS ((s.take (i + spanR nlI (s.drop i))).drop a)) (Sx.look (rdW 63 s (i + spanR nlI (s.drop i) : Nat))) 140 from q (s.length - a) a (by omega) (Nat.le_refl _)
  intro k
  induction k with
  | zero =>
    intro i hi hai
    rw [span_e (by omega), Nat.add_zero]
    exact whN2 s a i (by omega) hai
  | succ k ih =>
    intro i hi hai
    cases h : nlI ((s.getD i 0).toNat : Int) with
    | true =>
      rw [span_y (by omega) h, show ∀ x, i + (x + 1) = i + 1 + x by omega]
      exact whN1 s a i (by omega) hs h _ _ (ih (i + 1) (by omega) (by omega))
    | false =>
      rw [span_n (by omega) h, Nat.add_zero]
      exact whN3 s a i (by omega) hai h
def whNP : PC := { args := [.v (.vp 63), .v (.vq 89)], heap := [⟨63, true, 2, .tc (.vs 0) (.tc (.vi .i64 1) .t0)⟩], gs := [], G := 23, tp := 213, n := 80, n' := 140, cond := fun e => decide (0 ≤ eI e 1 []) && (decide ((eI e 1 []).toNat ≤ (eS e 0 []).length) && decide ((eS e 0 []).length ≤ 100000)), v := fun e => vS (((eS e 0 []).take ((eI e 1 []).toNat + spanR nlI ((eS e 0 []).drop (eI e 1 []).toNat))).drop ((eI e 1 []).toNat)), post := fun e => rdW 63 (eS e 0 []) (((eI e 1 []).toNat + spanR nlI ((eS e 0 []).drop (eI e 1 []).toNat)) : Nat) }
theorem whNP_pc : PC.Runs Tryd.prog 86 Tryd.f86 (bodyOf Tryd.f86) whNP := ⟨Tryd.func86, by kernel_rfl, (fun g hg => by first | (cases hg; done) | (revert g; show ∀ g ∈ ([] : List Nat), g < 23; decide)), fun e H hc => by
  have hc : (decide (0 ≤ eI e 1 []) && (decide ((eI e 1 []).toNat ≤ (eS e 0 []).length) && decide ((eS e 0 []).length ≤ 100000))) = true := hc
  try simp only [Bool.and_eq_true, decide_eq_true_eq, Nat.beq_eq] at hc
  exact by obtain ⟨h1, h2, h3⟩ := hc; have hj : ((eI e 1 []).toNat : Int) = eI e 1 [] := Int.toNat_of_nonneg h1; have q := whNI (eS e 0 []) (eI e 1 []).toNat h2 h3; rw [hj] at q; exact q⟩
end Go.Proofs.YtaleenklamognaaDoor

set_option linter.unusedSimpArgs false
set_option linter.unusedVariables false
set_option maxRecDepth 100000
namespace Go.Proofs.YtaleenklamognaaDoor
open Go.Sx

open WordR
def isOkR : TR → Bool | .ok _ _ => true | .err _ => false
def isErR (e : Nat) : TR → Bool | .ok _ _ => false | .err k => k == e
def okT : TR → Wt | .ok t _ => t | .err _ => ⟨0, [], 0, [], 0⟩
def okN : TR → Nat | .ok _ n => n | .err _ => 0
def isBy : O1 → Bool | .byte _ _ => true | _ => false
def isVa : O1 → Bool | .var _ _ => true | _ => false
def isEr (e : Nat) : O1 → Bool | .err k => k == e | _ => false
def byC : O1 → UInt8 | .byte c _ => c | _ => 0
def vaX : O1 → List UInt8 | .var x _ => x | _ => []
def o1N : O1 → Nat | .byte _ n => n | .var _ n => n | .err _ => 0
/-- A token's cells. -/
def tkT (k : Int) (x : List UInt8) (m : Int) (p : Tr) : Tr := .tc (.vi .i64 fun _ => k) (.tc (.vs fun _ => x) (.tc (.vi .i64 fun _ => m) (.tc p (.tc (.vi .i64 fun _ => 0) .t0))))
def txt (s : List UInt8) (a n : Nat) : List UInt8 := (s.take (a + n)).drop a
def textAt (H : List Ent) (g : Nat) : List UInt8 := match Sx.look H g with | some b => objText b | none => []
theorem gap_eq : ∀ l : List UInt8, gapR false l = spanR blI l + (if (l.drop (spanR blI l)).headD 0 = 35 then spanR nlI (l.drop (spanR blI l)) else 0)
  | [] => rfl
  | c :: r => by
    have ih := gap_eq r
    have ht : ∀ q : List UInt8, gapR true q = spanR nlI q := by
      intro q
      induction q with
      | nil => rfl
      | cons d q ih =>
        by_cases h : d = 10
        · subst h; rfl
        · have hn : nlI (nat d) = true := by
            unfold nlI nat; refine decide_eq_true ?_; intro e; exact h (UInt8.toNat_inj.1 (by have : (10 : UInt8).toNat = 10 := rfl; omega))
          rw [gapR, spanR, if_neg h, if_pos hn, ih]
    by_cases hb : blI (nat c) = true
    · rw [gapR, spanR, if_pos hb, if_pos hb, List.drop_succ_cons, ih]; omega
    · rw [gapR, spanR, if_neg hb, if_neg hb, List.drop_zero, List.headD_cons]
      by_cases hc : c = 35
      · subst hc
        rw [if_pos rfl, if_pos rfl, ht, spanR, if_pos (by decide)]; omega
      · rw [if_neg hc, if_neg hc]
theorem head_drop (s : List UInt8) (b : Nat) : (s.drop b).headD 0 = s.getD b 0 := by
  rw [List.headD_eq_head?_getD, List.head?_drop, List.getD_eq_getElem?_getD]
theorem span_stop (p : Int → Bool) : ∀ l : List UInt8, spanR p l < l.length → p (nat (l.getD (spanR p l) 0)) = false
  | [], h => by simp [spanR] at h
  | c :: r, h => by
    by_cases q : p (nat c) = true
    · rw [spanR, if_pos q] at h ⊢
      exact span_stop p r (by simpa using h)
    · rw [spanR, if_neg q]; simpa using q
theorem getD_drop (s : List UInt8) (b k : Nat) : (s.drop b).getD k 0 = s.getD (b + k) 0 := by
  simp [List.getD_eq_getElem?_getD, List.getElem?_drop]
theorem span_at (p : Int → Bool) (s : List UInt8) (a : Nat) (h : a + spanR p (s.drop a) < s.length) : p ((s.getD (a + spanR p (s.drop a)) 0).toNat : Int) = false := by
  have := span_stop p (s.drop a) (by rw [List.length_drop]; omega)
  rw [getD_drop] at this
  exact this
theorem take_drop (s : List UInt8) (a n : Nat) : (s.take (a + n)).drop a = (s.drop a).take n := by rw [List.drop_take]; congr 1; omega
def whBN : Summ := fun args H x => match args with
  | [_, .v (.vr v)] => (match isFn 87 v with | true => whBP.summ 46 args H x | false => whNP.summ 46 args H x)
  | _ => whNP.summ 46 args H x
theorem whBN_ok : ∀ args H x e d y, whBN args H x = .ok e d y → OkL d → (∀ a ∈ args, ∀ l ∈ a.labs, l < x.nl) → WFh (Sx.look H) x.nl → gtop Tryd.prog ≤ x.nl → CallOK Tryd.prog 86 args H x.nl e y.nl := by
  intro args H x e d y h
  unfold whBN at h
  split at h
  · split at h
    · exact PC.summ_ok whBP_pc gtopG _ _ _ _ _ _ h
    · exact PC.summ_ok whNP_pc gtopG _ _ _ _ _ _ h
  · exact PC.summ_ok whNP_pc gtopG _ _ _ _ _ _ h
def sumsSK : List (FuncId × Summ) := [(86, whBN)]
theorem baseSK : Base0 Tryd.prog sumsSK := (baseO.cons Tryd.func86 (by kernel_rfl) whBN_ok)

variable (a : Nat) (s : List UInt8)
abbrev wb1 := (↑((a : Int).toNat + spanR blI (List.drop (a : Int).toNat s)) : Int)
abbrev wb4 := (↑((wb1 a s).toNat + spanR nlI (List.drop (wb1 a s).toNat s)) : Int)
abbrev wb2 := (↑((wb4 a s).toNat + spanR blI (List.drop (wb4 a s).toNat s)) : Int)
abbrev wb3 := (decide (0 ≤ (a : Int)) && (decide ((a : Int).toNat ≤ s.length) && decide (s.length ≤ (100000 : Nat))), true)
abbrev wb5 := (decide (0 ≤ IntKind.i64.wrap ((wb1 a s) + 0) ∧ IntKind.i64.wrap ((wb1 a s) + 0) < (↑s.length : Int)), true)
abbrev wb6 := (a : Int).toNat + spanR goI (List.drop (a : Int).toNat s)
abbrev wb7 := (↑(s.getD (IntKind.i64.wrap ((wb1 a s) + 0)).toNat (0 : UInt8)).toNat : Int)
abbrev wb8 := (decide (IntKind.i64.wrap ((wb1 a s) + 0) ≥ (↑s.length : Int)), false)
abbrev wb9 := (decide (0 ≤ (wb1 a s)) && (decide ((wb1 a s).toNat ≤ s.length) && decide (s.length ≤ (100000 : Nat))), true)
abbrev wb10 := (decide (0 ≤ (wb4 a s)) && (decide ((wb4 a s).toNat ≤ s.length) && decide (s.length ≤ (100000 : Nat))), true)
set_option maxHeartbeats 4000000 in
theorem sk1 (s : List UInt8) (a : Nat) (b : Nat) (ha : a ≤ s.length) (hs : s.length ≤ 100000) (hb : a + spanR blI (s.drop a) = b) (hbl : b ≤ s.length) (h : b < s.length → (s.getD b 0).toNat ≠ 35)  :
    (RunsTo Tryd.prog 49 [.code (bodyOf Tryd.f49)] (envOf [vP 63] Tryd.f49.ntmps) (Sx.look ([] ++ (rdW 63 s (a : Nat)))) 80 (.tup []) (Sx.look (rdW 63 s (b : Nat))) 300) := by
  have hwb : IntKind.i64.wrap ((b : Int) + 0) = (b : Int) := by rw [wr64 (by omega)]; omega
  have hvb : IntKind.i64.wrap (b : Int) = (b : Int) := wr64 (by omega)
  have E' := (⟨hb, hwb, hvb⟩ : _ ∧ _ ∧ _)
  refine bcase (fun gg0 => (rEn baseSK 300 (99) 900 80 (hI 4 17) ([]) [(wb3 a s), (wb8 a s), (wb5 a s), ((wb7 a s) == 35, false)] (True ∧ s = s ∧ (b : Int) = (wb1 a s)) (oc4 ?_ gg0 ?_ ?_ okn) ?_)) fun gg0 => (rEn baseSK 300 (99) 900 80 (hI 3 37) ([]) [(wb3 a s), (decide (IntKind.i64.wrap ((wb1 a s) + 0) ≥ (↑s.length : Int)), true)] (True ∧ s = s ∧ (b : Int) = (wb1 a s)) (oc2 ?_ gg0 okn) ?_)
  all_goals try dsimp only [wb3, wb8, wb1, wb5, wb7] at *
  all_goals exact sc8

set_option maxHeartbeats 4000000 in
theorem sk2 (s : List UInt8) (a : Nat) (b c : Nat) (ha : a ≤ s.length) (hs : s.length ≤ 100000) (hb : a + spanR blI (s.drop a) = b) (hbl : b < s.length) (h : (s.getD b 0).toNat = 35) (hc : b + spanR nlI (s.drop b) = c) (hcl : c ≤ s.length) (hd : c + spanR blI (s.drop c) = c) (h2 : c < s.length → (s.getD c 0).toNat ≠ 35)  :
    (RunsTo Tryd.prog 49 [.code (bodyOf Tryd.f49)] (envOf [vP 63] Tryd.f49.ntmps) (Sx.look ([] ++ (rdW 63 s (a : Nat)))) 80 (.tup []) (Sx.look (rdW 63 s (c : Nat))) 300) := by
  have hwb : IntKind.i64.wrap ((b : Int) + 0) = (b : Int) := by rw [wr64 (by omega)]; omega
  have hvb : IntKind.i64.wrap (b : Int) = (b : Int) := wr64 (by omega)
  have hwc : IntKind.i64.wrap ((c : Int) + 0) = (c : Int) := by rw [wr64 (by omega)]; omega
  have hvc : IntKind.i64.wrap (c : Int) = (c : Int) := wr64 (by omega)
  have E' := (⟨hb, hc, hd, h, hwb, hvb, hwc, hvc⟩ : _ ∧ _ ∧ _ ∧ _ ∧ _ ∧ _ ∧ _ ∧ _)
  refine bcase (fun gg0 => (rEn baseSK 300 (99) 900 80 (hI 9 17745) ([]) [(wb3 a s), (wb8 a s), (wb5 a s), ((wb7 a s) == 35, true), (wb9 a s), (wb10 a s), (decide (IntKind.i64.wrap ((wb2 a s) + 0) ≥ (↑s.length : Int)), false), (decide (0 ≤ IntKind.i64.wrap ((wb2 a s) + 0) ∧ IntKind.i64.wrap ((wb2 a s) + 0) < (↑s.length : Int)), true), ((↑(s.getD (IntKind.i64.wrap ((wb2 a s) + 0)).toNat (0 : UInt8)).toNat : Int) == 35, false)] (True ∧ s = s ∧ (c : Int) = (wb2 a s)) (oc9 ?_ ?_ ?_ ?_ ?_ ?_ gg0 ?_ ?_ okn) ?_)) fun gg0 => (rEn baseSK 300 (99) 900 80 (hI 8 38225) ([]) [(wb3 a s), (wb8 a s), (wb5 a s), ((wb7 a s) == 35, true), (wb9 a s), (wb10 a s), (decide (IntKind.i64.wrap ((wb2 a s) + 0) ≥ (↑s.length : Int)), true)] (True ∧ s = s ∧ (c : Int) = (wb2 a s)) (oc7 ?_ ?_ ?_ ?_ ?_ ?_ gg0 okn) ?_)
  all_goals try dsimp only [wb3, wb8, wb1, wb5, wb7, wb9, wb10, wb4, wb2] at *
  all_goals exact sc9

theorem skI (s : List UInt8) (a : Nat) (ha : a ≤ s.length) (hs : s.length ≤ 100000) : RunsTo Tryd.prog 49 [.code (bodyOf Tryd.f49)] (envOf [vP 63] Tryd.f49.ntmps) (Sx.look ([] ++ (rdW 63 s (a : Nat)))) 80 (.tup []) (Sx.look (rdW 63 s ((a + gapR false (s.drop a)) : Nat))) 300 := by
  have hg := gap_eq (s.drop a)
  have hb := span_le' blI s ha
  rw [List.drop_drop, head_drop] at hg
  by_cases h : s.getD (a + spanR blI (s.drop a)) 0 = 35
  · rw [if_pos h] at hg
    have hbl : a + spanR blI (s.drop a) < s.length := by
      rcases Nat.lt_or_ge (a + spanR blI (s.drop a)) s.length with q | q
      · exact q
      · rw [List.getD_eq_getElem?_getD, List.getElem?_eq_none q] at h; exact absurd h (by decide)
    have hc := span_le' nlI s (a := a + spanR blI (s.drop a)) hb
    rw [hg, show ∀ x, a + (spanR blI (s.drop a) + x) = a + spanR blI (s.drop a) + x by omega]
    generalize hbe : a + spanR blI (s.drop a) = b at *
    have hstop := span_at nlI s b
    generalize hce : b + spanR nlI (s.drop b) = c at *
    have hd : c + spanR blI (s.drop c) = c := by
      rcases Nat.lt_or_ge c s.length with q | q
      · have h10 := hstop q
        have e10 : ((s.getD c 0).toNat : Int) = 10 := by simpa [nlI] using h10
        rw [span_n q (by rw [e10]; decide), Nat.add_zero]
      · rw [span_e q, Nat.add_zero]
    have h35 : c < s.length → (s.getD c 0).toNat ≠ 35 := fun q => by
      have h10 := hstop q
      have e10 : ((s.getD c 0).toNat : Int) = 10 := by simpa [nlI] using h10
      omega
    exact sk2 s a b c ha hs hbe hbl (by rw [h]; rfl) hce hc hd h35
  · rw [if_neg h, Nat.add_zero] at hg
    rw [hg]
    exact sk1 s a _ ha hs rfl hb (fun _ e => h (UInt8.toNat_inj.1 (by have : (35 : UInt8).toNat = 35 := rfl; omega)))
def skP : PC := { args := [.v (.vp 63)], heap := [⟨63, true, 2, .tc (.vs 0) (.tc (.vi .i64 1) .t0)⟩], gs := [], G := 23, tp := 213, n := 80, n' := 300, cond := fun e => decide (0 ≤ eI e 1 []) && (decide ((eI e 1 []).toNat ≤ (eS e 0 []).length) && (decide ((eS e 0 []).length ≤ 100000))), v := fun e => .tup [], post := fun e => rdW 63 (eS e 0 []) (((eI e 1 []).toNat + gapR false ((eS e 0 []).drop (eI e 1 []).toNat)) : Nat) }
theorem skP_pc : PC.Runs Tryd.prog 49 Tryd.f49 (bodyOf Tryd.f49) skP := ⟨Tryd.func49, by kernel_rfl, (fun g hg => by first | (cases hg; done) | (revert g; show ∀ g ∈ ([] : List Nat), g < 23; decide)), fun e H hc => by
  have hc : (decide (0 ≤ eI e 1 []) && (decide ((eI e 1 []).toNat ≤ (eS e 0 []).length) && (decide ((eS e 0 []).length ≤ 100000)))) = true := hc
  try simp only [Bool.and_eq_true, decide_eq_true_eq, Nat.beq_eq] at hc
  exact by obtain ⟨h1, h2, h3⟩ := hc; have hj : ((eI e 1 []).toNat : Int) = eI e 1 [] := Int.toNat_of_nonneg h1; have q := skI (eS e 0 []) (eI e 1 []).toNat h2 h3; rw [hj] at q; exact q⟩
def sumsNM : List (FuncId × Summ) := [(86, whGP.summ 46)]
theorem baseNM : Base0 Tryd.prog sumsNM := (baseO.cons Tryd.func86 (by kernel_rfl) (PC.summ_ok whGP_pc gtopG))

set_option maxHeartbeats 4000000 in
theorem nmOk (t0 : List UInt8) (s : List UInt8) (a : Nat) (ha : a ≤ s.length) (hs : s.length ≤ 100000) (h : spanR goI (s.drop a) ≤ 24)  :
    (RunsTo Tryd.prog 90 [.code (bodyOf Tryd.f90)] (envOf [vP 63] Tryd.f90.ntmps) (Sx.look (sentEnts 23 213 [(0, t0)] ++ (rdW 63 s (a : Nat)))) 80 (.tup [(true, tkT (1) (txt s a (spanR goI (s.drop a))) (0) .vl0), (false, .ve0)]) (Sx.look (rdW 63 s (a + spanR goI (s.drop a) : Nat))) 300) := by
  have hl := span_le' goI s ha
  have htl : (txt s a (spanR goI (s.drop a))).length = spanR goI (s.drop a) := by simp only [txt, List.length_drop, List.length_take]; omega
  have E' := htl
  refine rEn baseNM 300 (99) 900 80 (hI 2 1) ([]) [(wb3 a s), (decide ((↑(List.drop (a : Int).toNat (List.take (wb6 a s) s)).length : Int) > 24), false)] ((((1 : Int) = (1 : Int) ∧ txt s a (spanR goI (List.drop a s)) = List.drop (a : Int).toNat (List.take (wb6 a s) s) ∧ (0 : Int) = (0 : Int) ∧ True ∧ (0 : Int) = (0 : Int)) ∧ True ∧ True) ∧ s = s ∧ (↑(a + spanR goI (List.drop a s)) : Int) = (↑(wb6 a s) : Int)) (oc2 ?_ ?_ okn) ?_
  all_goals try dsimp only [wb3, wb6]
  all_goals exact sc10

set_option maxHeartbeats 4000000 in
theorem nmLo (t0 : List UInt8) (s : List UInt8) (a : Nat) (ha : a ≤ s.length) (hs : s.length ≤ 100000) (h : 24 < spanR goI (s.drop a))  :
    (RunsTo Tryd.prog 90 [.code (bodyOf Tryd.f90)] (envOf [vP 63] Tryd.f90.ntmps) (Sx.look (sentEnts 23 213 [(0, t0)] ++ (rdW 63 s (a : Nat)))) 80 (.tup [(true, tkT (0) ([]) (0) .vl0), (false, vErr 0)]) (Sx.look ([])) 300) := by
  have hl := span_le' goI s ha
  have htl : (txt s a (spanR goI (s.drop a))).length = spanR goI (s.drop a) := by simp only [txt, List.length_drop, List.length_take]; omega
  have E' := htl
  refine rEn baseNM 300 (99) 900 80 (hI 2 5) ([]) [(wb3 a s), (decide ((↑(List.drop (a : Int).toNat (List.take (wb6 a s) s)).length : Int) > 24), true)] ((((0 : Int) = (0 : Int) ∧ ([] : List UInt8) = [] ∧ (0 : Int) = (0 : Int) ∧ True ∧ (0 : Int) = (0 : Int)) ∧ 0 = 0 ∧ True) ∧ True) (oc2 ?_ ?_ okn) ?_
  all_goals try dsimp only [wb3, wb6]
  all_goals exact sc10

def nmOkP : PC := { args := [.v (.vp 63)], heap := [⟨63, true, 2, .tc (.vs 0) (.tc (.vi .i64 1) .t0)⟩], gs := [0], G := 23, tp := 213, n := 80, n' := 300, cond := fun e => decide (0 ≤ eI e 1 []) && (decide ((eI e 1 []).toNat ≤ (eS e 0 []).length) && (decide ((eS e 0 []).length ≤ 100000) && decide ((spanR goI ((eS e 0 []).drop (eI e 1 []).toNat)) ≤ 24))), v := fun e => .tup [(true, tkT (1) (txt (eS e 0 []) (eI e 1 []).toNat (spanR goI ((eS e 0 []).drop (eI e 1 []).toNat))) (0) .vl0), (false, .ve0)], post := fun e => rdW 63 (eS e 0 []) ((eI e 1 []).toNat + (spanR goI ((eS e 0 []).drop (eI e 1 []).toNat)) : Nat) }
theorem nmOkP_pc : PC.Runs Tryd.prog 90 Tryd.f90 (bodyOf Tryd.f90) nmOkP := ⟨Tryd.func90, by kernel_rfl, (fun g hg => by first | (cases hg; done) | (revert g; show ∀ g ∈ ([0] : List Nat), g < 23; decide)), fun e H hc => by
  have hc : (decide (0 ≤ eI e 1 []) && (decide ((eI e 1 []).toNat ≤ (eS e 0 []).length) && (decide ((eS e 0 []).length ≤ 100000) && decide ((spanR goI ((eS e 0 []).drop (eI e 1 []).toNat)) ≤ 24)))) = true := hc
  try simp only [Bool.and_eq_true, decide_eq_true_eq, Nat.beq_eq] at hc
  exact by obtain ⟨h1, h2, h3, h4⟩ := hc; have hj : ((eI e 1 []).toNat : Int) = eI e 1 [] := Int.toNat_of_nonneg h1; have q := nmOk (textAt H 23) (eS e 0 []) (eI e 1 []).toNat h2 h3 h4; rw [hj] at q; exact q⟩
def nmLoP : PC := { args := [.v (.vp 63)], heap := [⟨63, true, 2, .tc (.vs 0) (.tc (.vi .i64 1) .t0)⟩], gs := [0], G := 23, tp := 213, n := 80, n' := 300, cond := fun e => decide (0 ≤ eI e 1 []) && (decide ((eI e 1 []).toNat ≤ (eS e 0 []).length) && (decide ((eS e 0 []).length ≤ 100000) && decide (24 < (spanR goI ((eS e 0 []).drop (eI e 1 []).toNat))))), v := fun e => .tup [(true, tkT (0) ([]) (0) .vl0), (false, vErr 0)], post := fun e => [] }
theorem nmLoP_pc : PC.Runs Tryd.prog 90 Tryd.f90 (bodyOf Tryd.f90) nmLoP := ⟨Tryd.func90, by kernel_rfl, (fun g hg => by first | (cases hg; done) | (revert g; show ∀ g ∈ ([0] : List Nat), g < 23; decide)), fun e H hc => by
  have hc : (decide (0 ≤ eI e 1 []) && (decide ((eI e 1 []).toNat ≤ (eS e 0 []).length) && (decide ((eS e 0 []).length ≤ 100000) && decide (24 < (spanR goI ((eS e 0 []).drop (eI e 1 []).toNat)))))) = true := hc
  try simp only [Bool.and_eq_true, decide_eq_true_eq, Nat.beq_eq] at hc
  exact by obtain ⟨h1, h2, h3, h4⟩ := hc; have hj : ((eI e 1 []).toNat : Int) = eI e 1 [] := Int.toNat_of_nonneg h1; have q := nmLo (textAt H 23) (eS e 0 []) (eI e 1 []).toNat h2 h3 h4; rw [hj] at q; exact q⟩
end Go.Proofs.YtaleenklamognaaDoor

set_option linter.unusedSimpArgs false
set_option linter.unusedVariables false
set_option maxRecDepth 100000
namespace Go.Proofs.YtaleenklamognaaDoor
open Go.Sx

open WordR
theorem dig_tab : (List.range 256).all (fun n => (decide (65 ≤ n ∧ n ≤ 70) && (idxB [48, 49, 50, 51, 52, 53, 54, 55, 56, 57, 97, 98, 99, 100, 101, 102] (IntKind.u8.wrap ((n : Int) + 32)) == hexI n)) || (!decide (65 ≤ n ∧ n ≤ 70) && (idxB [48, 49, 50, 51, 52, 53, 54, 55, 56, 57, 97, 98, 99, 100, 101, 102] (n : Int) == hexI n))) = true := by decide +kernel
theorem dig_a {x : Int} (h0 : 65 ≤ x ∧ x ≤ 70) : idxB [48, 49, 50, 51, 52, 53, 54, 55, 56, 57, 97, 98, 99, 100, 101, 102] (IntKind.u8.wrap (x + 32)) = hexI x := by
  have := List.all_eq_true.1 dig_tab x.toNat (List.mem_range.2 (by omega))
  have e : ((x.toNat : Nat) : Int) = x := Int.toNat_of_nonneg (by omega)
  rw [e] at this
  have q : decide (65 ≤ x.toNat ∧ x.toNat ≤ 70) = true := decide_eq_true (by omega)
  rw [q] at this
  simpa using this
theorem dig_b {x : Int} (h0 : 0 ≤ x ∧ x < 256) (h : ¬ (65 ≤ x ∧ x ≤ 70)) : idxB [48, 49, 50, 51, 52, 53, 54, 55, 56, 57, 97, 98, 99, 100, 101, 102] x = hexI x := by
  have := List.all_eq_true.1 dig_tab x.toNat (List.mem_range.2 (by omega))
  have e : ((x.toNat : Nat) : Int) = x := Int.toNat_of_nonneg (by omega)
  rw [e] at this
  have q : decide (65 ≤ x.toNat ∧ x.toNat ≤ 70) = false := decide_eq_false (by omega)
  rw [q] at this
  simpa using this

variable (a : Nat) (s t0 t1 : List UInt8) (x : Int)
abbrev wc1 := (↑(s.getD (a : Int).toNat (0 : UInt8)).toNat : Int)
abbrev wc19 := (a : Int) + 1
abbrev wc2 := (↑(s.getD (IntKind.i64.wrap (wc19 a)).toNat (0 : UInt8)).toNat : Int)
abbrev wc16 := (↑s.length : Int)
abbrev wc3 := (decide (0 ≤ (a : Int) ∧ (a : Int) < (wc16 s)), true)
abbrev wc11 := IntKind.i64.wrap (wc19 a) + 1
abbrev wc4 := (↑(s.getD (IntKind.i64.wrap (wc11 a)).toNat (0 : UInt8)).toNat : Int)
abbrev wc5 := Sx.look (sentEnts 23 213 [(5, t0), (6, t1)] ++ (rdW 63 s (a : Nat)))
abbrev wc6 := (decide ((a : Int) ≥ (wc16 s)), false)
abbrev wc7 := (decide (0 ≤ IntKind.i64.wrap (wc19 a) ∧ IntKind.i64.wrap (wc19 a) < (wc16 s)), true)
abbrev wc8 := ((↑(s.getD a (0 : UInt8)).toNat : Int) = (wc1 a s) ∧ True ∧ True) ∧ s = s ∧ (↑(a + (1 : Nat)) : Int) = IntKind.i64.wrap (wc19 a)
abbrev wc9 := ((0 : Int) = (0 : Int) ∧ 0 = 0 ∧ True) ∧ True
abbrev wc10 := hexI x = idxB [(48 : UInt8), (49 : UInt8), (50 : UInt8), (51 : UInt8), (52 : UInt8), (53 : UInt8), (54 : UInt8), (55 : UInt8), (56 : UInt8), (57 : UInt8), (97 : UInt8), (98 : UInt8), (99 : UInt8), (100 : UInt8), (101 : UInt8), (102 : UInt8)] x ∧ True
abbrev wc12 := (decide (IntKind.i64.wrap (wc19 a) ≥ (wc16 s)), false)
abbrev wc13 := ((wc1 a s) == 110, false)
abbrev wc14 := ((wc1 a s) == 114, false)
abbrev wc15 := (decide (0 ≤ (wc2 a s) ∧ (wc2 a s) < 256), true)
abbrev wc17 := ((wc1 a s) == 116, false)
abbrev wc18 := Sx.look ([])
abbrev wc20 := (decide (0 ≤ IntKind.i64.wrap (wc11 a) ∧ IntKind.i64.wrap (wc11 a) < (wc16 s)), true)
set_option maxHeartbeats 4000000 in
theorem dgT (x : Int) (h0 : 0 ≤ x ∧ x < 256)  :
    (RunsTo Tryd.prog 171 [.code (bodyOf Tryd.f171)] (envOf [vU x] Tryd.f171.ntmps) (Sx.look ([] ++ ([]))) 80 (vN (hexI x)) wc18 90) := by
  refine bcase (fun gg0 => (rEn baseO 300 (99) 900 80 (hI 1 0) ([]) [(decide (x ≥ (65 : Int)), false)] (wc10 x) (oc1 gg0 okn) ?_)) fun gg0 => (bcase (fun gg1 => (rEn baseO 300 (99) 900 80 (hI 2 1) ([]) [(decide (x ≥ (65 : Int)), true), (decide (x ≤ (70 : Int)), false)] (wc10 x) (oc2 gg0 gg1 okn) ?_)) fun gg1 => (rEn baseO 300 (99) 900 80 (hI 2 5) ([]) [(decide (x ≥ (65 : Int)), true), (decide (x ≤ (70 : Int)), true)] (hexI x = idxB [(48 : UInt8), (49 : UInt8), (50 : UInt8), (51 : UInt8), (52 : UInt8), (53 : UInt8), (54 : UInt8), (55 : UInt8), (56 : UInt8), (57 : UInt8), (97 : UInt8), (98 : UInt8), (99 : UInt8), (100 : UInt8), (101 : UInt8), (102 : UInt8)] (IntKind.u8.wrap (x + 32)) ∧ True) (oc2 gg0 gg1 okn) ?_))
  all_goals try dsimp only [wc10] at *
  all_goals exact sc11

def dgP : PC := { args := [.v (.vi .u8 0)], heap := [], gs := [], G := 23, tp := 213, n := 80, n' := 90, cond := fun e => decide (0 ≤ eI e 0 [] ∧ eI e 0 [] < 256), v := fun e => vN (hexI (eI e 0 [])), post := fun e => [] }
theorem dgP_pc : PC.Runs Tryd.prog 171 Tryd.f171 (bodyOf Tryd.f171) dgP := ⟨Tryd.func171, by kernel_rfl, (fun g hg => by first | (cases hg; done) | (revert g; show ∀ g ∈ ([] : List Nat), g < 23; decide)), fun e H hc => by
  have hc : (decide (0 ≤ eI e 0 [] ∧ eI e 0 [] < 256)) = true := hc
  try simp only [Bool.and_eq_true, decide_eq_true_eq, Nat.beq_eq] at hc
  exact dgT (eI e 0 []) hc⟩
def sumsES : List (FuncId × Summ) := [(171, dgP.summ 46)]
theorem baseES : Base0 Tryd.prog sumsES := (baseO.cons Tryd.func171 (by kernel_rfl) (PC.summ_ok dgP_pc gtopG))

set_option maxHeartbeats 4000000 in
theorem esN (t0 t1 : List UInt8) (s : List UInt8) (a : Nat) (ha : a < s.length) (hs : s.length ≤ 100000) (h : (s.getD a 0).toNat = 110)  :
    (RunsTo Tryd.prog 140 [.code (bodyOf Tryd.f140)] (envOf [vP 63] Tryd.f140.ntmps) (wc5 a s t0 t1) 80 (.tup [(false, .vi .u8 fun _ => (10 : Int)), (false, .ve0)]) (Sx.look (rdW 63 s (a + 1 : Nat))) 300) := by
  have hw1 : IntKind.i64.wrap ((a : Int) + 1) = ((a + 1 : Nat) : Int) := by rw [wr64 (by omega)]; rfl
  have hw2 : IntKind.i64.wrap (((a + 1 : Nat) : Int) + 1) = ((a + 2 : Nat) : Int) := by rw [wr64 (by omega)]; omega
  have hw3 : IntKind.i64.wrap (((a + 2 : Nat) : Int) + 1) = ((a + 3 : Nat) : Int) := by rw [wr64 (by omega)]; omega
  have hb0 := u8nat (s.getD a 0)
  have hb1 := u8nat (s.getD (a + 1) 0)
  have hb2 := u8nat (s.getD (a + 2) 0)
  have E' := (⟨hw1, hw2, hw3⟩ : _ ∧ _ ∧ _)
  refine rEn baseES 300 (99) 900 80 (hI 3 20) ([]) [(wc6 a s), (wc3 a s), ((wc1 a s) == 110, true)] (((10 : Int) = (10 : Int) ∧ True ∧ True) ∧ s = s ∧ (↑(a + (1 : Nat)) : Int) = IntKind.i64.wrap (wc19 a)) (oc3 ?_ ?_ ?_ okn) ?_
  all_goals try dsimp only [wc6, wc16, wc3, wc1, wc19]
  all_goals exact sc10

set_option maxHeartbeats 4000000 in
theorem esR (t0 t1 : List UInt8) (s : List UInt8) (a : Nat) (ha : a < s.length) (hs : s.length ≤ 100000) (h : (s.getD a 0).toNat = 114)  :
    (RunsTo Tryd.prog 140 [.code (bodyOf Tryd.f140)] (envOf [vP 63] Tryd.f140.ntmps) (wc5 a s t0 t1) 80 (.tup [(false, .vi .u8 fun _ => (13 : Int)), (false, .ve0)]) (Sx.look (rdW 63 s (a + 1 : Nat))) 300) := by
  have hw1 : IntKind.i64.wrap ((a : Int) + 1) = ((a + 1 : Nat) : Int) := by rw [wr64 (by omega)]; rfl
  have hw2 : IntKind.i64.wrap (((a + 1 : Nat) : Int) + 1) = ((a + 2 : Nat) : Int) := by rw [wr64 (by omega)]; omega
  have hw3 : IntKind.i64.wrap (((a + 2 : Nat) : Int) + 1) = ((a + 3 : Nat) : Int) := by rw [wr64 (by omega)]; omega
  have hb0 := u8nat (s.getD a 0)
  have hb1 := u8nat (s.getD (a + 1) 0)
  have hb2 := u8nat (s.getD (a + 2) 0)
  have E' := (⟨hw1, hw2, hw3⟩ : _ ∧ _ ∧ _)
  refine rEn baseES 300 (99) 900 80 (hI 4 68) ([]) [(wc6 a s), (wc3 a s), (wc13 a s), ((wc1 a s) == 114, true)] (((13 : Int) = (13 : Int) ∧ True ∧ True) ∧ s = s ∧ (↑(a + (1 : Nat)) : Int) = IntKind.i64.wrap (wc19 a)) (oc4 ?_ ?_ ?_ ?_ okn) ?_
  all_goals try dsimp only [wc6, wc16, wc3, wc13, wc1, wc19]
  all_goals exact sc10

set_option maxHeartbeats 4000000 in
theorem esTb (t0 t1 : List UInt8) (s : List UInt8) (a : Nat) (ha : a < s.length) (hs : s.length ≤ 100000) (h : (s.getD a 0).toNat = 116)  :
    (RunsTo Tryd.prog 140 [.code (bodyOf Tryd.f140)] (envOf [vP 63] Tryd.f140.ntmps) (wc5 a s t0 t1) 80 (.tup [(false, .vi .u8 fun _ => (9 : Int)), (false, .ve0)]) (Sx.look (rdW 63 s (a + 1 : Nat))) 300) := by
  have hw1 : IntKind.i64.wrap ((a : Int) + 1) = ((a + 1 : Nat) : Int) := by rw [wr64 (by omega)]; rfl
  have hw2 : IntKind.i64.wrap (((a + 1 : Nat) : Int) + 1) = ((a + 2 : Nat) : Int) := by rw [wr64 (by omega)]; omega
  have hw3 : IntKind.i64.wrap (((a + 2 : Nat) : Int) + 1) = ((a + 3 : Nat) : Int) := by rw [wr64 (by omega)]; omega
  have hb0 := u8nat (s.getD a 0)
  have hb1 := u8nat (s.getD (a + 1) 0)
  have hb2 := u8nat (s.getD (a + 2) 0)
  have E' := (⟨hw1, hw2, hw3⟩ : _ ∧ _ ∧ _)
  refine rEn baseES 300 (99) 900 80 (hI 5 260) ([]) [(wc6 a s), (wc3 a s), (wc13 a s), (wc14 a s), ((wc1 a s) == 116, true)] (((9 : Int) = (9 : Int) ∧ True ∧ True) ∧ s = s ∧ (↑(a + (1 : Nat)) : Int) = IntKind.i64.wrap (wc19 a)) (oc5 ?_ ?_ ?_ ?_ ?_ okn) ?_
  all_goals try dsimp only [wc6, wc16, wc3, wc13, wc1, wc14, wc19]
  all_goals exact sc10

set_option maxHeartbeats 4000000 in
theorem esB (t0 t1 : List UInt8) (s : List UInt8) (a : Nat) (ha : a < s.length) (hs : s.length ≤ 100000) (h : (s.getD a 0).toNat = 92 ∨ (s.getD a 0).toNat = 34 ∨ (s.getD a 0).toNat = 36)  :
    (RunsTo Tryd.prog 140 [.code (bodyOf Tryd.f140)] (envOf [vP 63] Tryd.f140.ntmps) (wc5 a s t0 t1) 80 (.tup [(false, .vi .u8 fun _ => (((s.getD a 0).toNat : Nat) : Int)), (false, .ve0)]) (Sx.look (rdW 63 s (a + 1 : Nat))) 300) := by
  have hw1 : IntKind.i64.wrap ((a : Int) + 1) = ((a + 1 : Nat) : Int) := by rw [wr64 (by omega)]; rfl
  have hw2 : IntKind.i64.wrap (((a + 1 : Nat) : Int) + 1) = ((a + 2 : Nat) : Int) := by rw [wr64 (by omega)]; omega
  have hw3 : IntKind.i64.wrap (((a + 2 : Nat) : Int) + 1) = ((a + 3 : Nat) : Int) := by rw [wr64 (by omega)]; omega
  have hb0 := u8nat (s.getD a 0)
  have hb1 := u8nat (s.getD (a + 1) 0)
  have hb2 := u8nat (s.getD (a + 2) 0)
  have E' := (⟨hw1, hw2, hw3⟩ : _ ∧ _ ∧ _)
  refine bcase (fun gg0 => (bcase (fun gg1 => (rEn baseES 300 (99) 900 80 (hI 9 65540) ([]) [(wc6 a s), (wc3 a s), (wc13 a s), (wc14 a s), (wc17 a s), ((wc1 a s) == 120, false), ((wc1 a s) == 92, false), ((wc1 a s) == 34, false), ((wc1 a s) == 36, true)] (wc8 a s) (oc9 ?_ ?_ ?_ ?_ ?_ ?_ gg0 gg1 ?_ okn) ?_)) fun gg1 => (rEn baseES 300 (99) 900 80 (hI 9 81924) ([]) [(wc6 a s), (wc3 a s), (wc13 a s), (wc14 a s), (wc17 a s), ((wc1 a s) == 120, false), ((wc1 a s) == 92, false), ((wc1 a s) == 34, true), ((wc1 a s) == 34, true)] (wc8 a s) (oc9 ?_ ?_ ?_ ?_ ?_ ?_ gg0 gg1 gg1 okn) ?_))) fun gg0 => (rEn baseES 300 (99) 900 80 (hI 8 20484) ([]) [(wc6 a s), (wc3 a s), (wc13 a s), (wc14 a s), (wc17 a s), ((wc1 a s) == 120, false), ((wc1 a s) == 92, true), ((wc1 a s) == 92, true)] (wc8 a s) (oc8 ?_ ?_ ?_ ?_ ?_ ?_ gg0 gg0 okn) ?_)
  all_goals try dsimp only [wc6, wc16, wc3, wc13, wc1, wc14, wc17, wc8, wc19] at *
  all_goals exact sc10

theorem hex_tab : (List.range 16).all (fun x => (List.range 16).all fun y => decide (IntKind.u8.wrap (ior .i64 (ishl .i64 (ior .i64 (ishl .i64 0 4) (x : Int)) 4) (y : Int)) = 16 * (x : Int) + (y : Int))) = true := by decide +kernel
theorem hex2 {x y : Int} (hx : 0 ≤ x ∧ x < 16) (hy : 0 ≤ y ∧ y < 16) : IntKind.u8.wrap (ior .i64 (ishl .i64 (ior .i64 (ishl .i64 0 4) x) 4) y) = 16 * x + y := by
  have h := List.all_eq_true.1 (List.all_eq_true.1 hex_tab x.toNat (List.mem_range.2 (by omega))) y.toNat (List.mem_range.2 (by omega))
  have e1 : ((x.toNat : Nat) : Int) = x := Int.toNat_of_nonneg (by omega)
  have e2 : ((y.toNat : Nat) : Int) = y := Int.toNat_of_nonneg (by omega)
  rw [e1, e2] at h
  exact of_decide_eq_true h
theorem hexI_lt (x : Int) : hexI x < 16 := by unfold hexI; repeat' split <;> omega

set_option maxHeartbeats 4000000 in
theorem esX (t0 t1 : List UInt8) (s : List UInt8) (a : Nat) (ha : a < s.length) (hs : s.length ≤ 100000) (h : (s.getD a 0).toNat = 120) (h3 : a + 2 < s.length) (x1 : 0 ≤ hexI ((s.getD (a + 1) 0).toNat : Int)) (x2 : 0 ≤ hexI ((s.getD (a + 2) 0).toNat : Int))  :
    (RunsTo Tryd.prog 140 [.code (bodyOf Tryd.f140)] (envOf [vP 63] Tryd.f140.ntmps) (wc5 a s t0 t1) 80 (.tup [(false, .vi .u8 fun _ => (16 * hexI ((s.getD (a + 1) 0).toNat : Int) + hexI ((s.getD (a + 2) 0).toNat : Int) : Int)), (false, .ve0)]) (Sx.look (rdW 63 s (a + 3 : Nat))) 300) := by
  have hw1 : IntKind.i64.wrap ((a : Int) + 1) = ((a + 1 : Nat) : Int) := by rw [wr64 (by omega)]; rfl
  have hw2 : IntKind.i64.wrap (((a + 1 : Nat) : Int) + 1) = ((a + 2 : Nat) : Int) := by rw [wr64 (by omega)]; omega
  have hw3 : IntKind.i64.wrap (((a + 2 : Nat) : Int) + 1) = ((a + 3 : Nat) : Int) := by rw [wr64 (by omega)]; omega
  have hb0 := u8nat (s.getD a 0)
  have hb1 := u8nat (s.getD (a + 1) 0)
  have hb2 := u8nat (s.getD (a + 2) 0)
  have E' := (⟨hw1, hw2, hw3⟩ : _ ∧ _ ∧ _)
  refine rEn baseES 300 (99) 900 80 (hI 19 190383993860) ([]) [(wc6 a s), (wc3 a s), (wc13 a s), (wc14 a s), (wc17 a s), ((wc1 a s) == 120, true), (wc12 a s), (wc7 a s), (wc15 a s), (decide (hexI (wc2 a s) < 0), false), (decide (IntKind.i64.wrap (wc11 a) ≥ (wc16 s)), false), (wc20 a s), (decide (0 ≤ (wc4 a s) ∧ (wc4 a s) < 256), true), (decide (hexI (wc4 a s) < 0), false)] (((16 : Int) * hexI (↑(s.getD (a + (1 : Nat)) (0 : UInt8)).toNat : Int) + hexI (↑(s.getD (a + (2 : Nat)) (0 : UInt8)).toNat : Int) = IntKind.u8.wrap (ior IntKind.i64 (ishl IntKind.i64 (ior IntKind.i64 (ishl IntKind.i64 (0 : Int) (4 : Int)) (hexI (wc2 a s))) (4 : Int)) (hexI (wc4 a s))) ∧ True ∧ True) ∧ s = s ∧ (↑(a + (3 : Nat)) : Int) = IntKind.i64.wrap (IntKind.i64.wrap (wc11 a) + 1)) (oc5 ?_ ?_ ?_ ?_ ?_ (oc9 ?_ ?_ ?_ ?_ ?_ ?_ ?_ ?_ ?_ okn)) ?_
  all_goals try dsimp only [wc6, wc16, wc3, wc13, wc1, wc14, wc17, wc12, wc19, wc7, wc15, wc2, wc11, wc20, wc4]
  all_goals exact sc12

set_option maxHeartbeats 4000000 in
theorem esE (t0 t1 : List UInt8) (s : List UInt8) (a : Nat) (ha : a = s.length) (hs : s.length ≤ 100000)  :
    (RunsTo Tryd.prog 140 [.code (bodyOf Tryd.f140)] (envOf [vP 63] Tryd.f140.ntmps) (wc5 a s t0 t1) 80 (.tup [(false, .vi .u8 fun _ => (0 : Int)), (false, vErr 5)]) wc18 300) := by
  have hw1 : IntKind.i64.wrap ((a : Int) + 1) = ((a + 1 : Nat) : Int) := by rw [wr64 (by omega)]; rfl
  have hw2 : IntKind.i64.wrap (((a + 1 : Nat) : Int) + 1) = ((a + 2 : Nat) : Int) := by rw [wr64 (by omega)]; omega
  have hw3 : IntKind.i64.wrap (((a + 2 : Nat) : Int) + 1) = ((a + 3 : Nat) : Int) := by rw [wr64 (by omega)]; omega
  have hb0 := u8nat (s.getD a 0)
  have hb1 := u8nat (s.getD (a + 1) 0)
  have hb2 := u8nat (s.getD (a + 2) 0)
  have E' := (⟨hw1, hw2, hw3⟩ : _ ∧ _ ∧ _)
  refine rEn baseES 300 (99) 900 80 (hI 1 1) ([]) [(decide ((a : Int) ≥ (wc16 s)), true)] wc9 (oc1 ?_ okn) ?_
  all_goals try dsimp only [wc16, wc9]
  all_goals exact sc10

set_option maxHeartbeats 4000000 in
theorem esE1 (t0 t1 : List UInt8) (s : List UInt8) (a : Nat) (ha : a < s.length) (hs : s.length ≤ 100000) (h : (s.getD a 0).toNat = 120) (h3 : a + 1 = s.length)  :
    (RunsTo Tryd.prog 140 [.code (bodyOf Tryd.f140)] (envOf [vP 63] Tryd.f140.ntmps) (wc5 a s t0 t1) 80 (.tup [(false, .vi .u8 fun _ => (0 : Int)), (false, vErr 5)]) wc18 300) := by
  have hw1 : IntKind.i64.wrap ((a : Int) + 1) = ((a + 1 : Nat) : Int) := by rw [wr64 (by omega)]; rfl
  have hw2 : IntKind.i64.wrap (((a + 1 : Nat) : Int) + 1) = ((a + 2 : Nat) : Int) := by rw [wr64 (by omega)]; omega
  have hw3 : IntKind.i64.wrap (((a + 2 : Nat) : Int) + 1) = ((a + 3 : Nat) : Int) := by rw [wr64 (by omega)]; omega
  have hb0 := u8nat (s.getD a 0)
  have hb1 := u8nat (s.getD (a + 1) 0)
  have hb2 := u8nat (s.getD (a + 2) 0)
  have E' := (⟨hw1, hw2, hw3⟩ : _ ∧ _ ∧ _)
  refine rEn baseES 300 (99) 900 80 (hI 8 29700) ([]) [(wc6 a s), (wc3 a s), (wc13 a s), (wc14 a s), (wc17 a s), ((wc1 a s) == 120, true), (decide (IntKind.i64.wrap (wc19 a) ≥ (wc16 s)), true)] wc9 (oc7 ?_ ?_ ?_ ?_ ?_ ?_ ?_ okn) ?_
  all_goals try dsimp only [wc6, wc16, wc3, wc13, wc1, wc14, wc17, wc19, wc9]
  all_goals exact sc10

set_option maxHeartbeats 4000000 in
theorem esE2 (t0 t1 : List UInt8) (s : List UInt8) (a : Nat) (ha : a < s.length) (hs : s.length ≤ 100000) (h : (s.getD a 0).toNat = 120) (h3 : a + 2 = s.length) (x1 : 0 ≤ hexI ((s.getD (a + 1) 0).toNat : Int))  :
    (RunsTo Tryd.prog 140 [.code (bodyOf Tryd.f140)] (envOf [vP 63] Tryd.f140.ntmps) (wc5 a s t0 t1) 80 (.tup [(false, .vi .u8 fun _ => (0 : Int)), (false, vErr 5)]) wc18 300) := by
  have hw1 : IntKind.i64.wrap ((a : Int) + 1) = ((a + 1 : Nat) : Int) := by rw [wr64 (by omega)]; rfl
  have hw2 : IntKind.i64.wrap (((a + 1 : Nat) : Int) + 1) = ((a + 2 : Nat) : Int) := by rw [wr64 (by omega)]; omega
  have hw3 : IntKind.i64.wrap (((a + 2 : Nat) : Int) + 1) = ((a + 3 : Nat) : Int) := by rw [wr64 (by omega)]; omega
  have hb0 := u8nat (s.getD a 0)
  have hb1 := u8nat (s.getD (a + 1) 0)
  have hb2 := u8nat (s.getD (a + 2) 0)
  have E' := (⟨hw1, hw2, hw3⟩ : _ ∧ _ ∧ _)
  refine rEn baseES 300 (99) 900 80 (hI 14 130364420) ([]) [(wc6 a s), (wc3 a s), (wc13 a s), (wc14 a s), (wc17 a s), ((wc1 a s) == 120, true), (wc12 a s), (wc7 a s), (wc15 a s), (decide (hexI (wc2 a s) < 0), false), (decide (IntKind.i64.wrap (wc11 a) ≥ (wc16 s)), true)] wc9 (oc2 ?_ ?_ (oc9 ?_ ?_ ?_ ?_ ?_ ?_ ?_ ?_ ?_ okn)) ?_
  all_goals try dsimp only [wc6, wc16, wc3, wc13, wc1, wc14, wc17, wc12, wc19, wc7, wc15, wc2, wc11, wc9]
  all_goals exact sc10

set_option maxHeartbeats 4000000 in
theorem esF1 (t0 t1 : List UInt8) (s : List UInt8) (a : Nat) (ha : a < s.length) (hs : s.length ≤ 100000) (h : (s.getD a 0).toNat = 120) (h3 : a + 1 < s.length) (x1 : hexI ((s.getD (a + 1) 0).toNat : Int) < 0)  :
    (RunsTo Tryd.prog 140 [.code (bodyOf Tryd.f140)] (envOf [vP 63] Tryd.f140.ntmps) (wc5 a s t0 t1) 80 (.tup [(false, .vi .u8 fun _ => (0 : Int)), (false, vErr 6)]) wc18 300) := by
  have hw1 : IntKind.i64.wrap ((a : Int) + 1) = ((a + 1 : Nat) : Int) := by rw [wr64 (by omega)]; rfl
  have hw2 : IntKind.i64.wrap (((a + 1 : Nat) : Int) + 1) = ((a + 2 : Nat) : Int) := by rw [wr64 (by omega)]; omega
  have hw3 : IntKind.i64.wrap (((a + 2 : Nat) : Int) + 1) = ((a + 3 : Nat) : Int) := by rw [wr64 (by omega)]; omega
  have hb0 := u8nat (s.getD a 0)
  have hb1 := u8nat (s.getD (a + 1) 0)
  have hb2 := u8nat (s.getD (a + 2) 0)
  have E' := (⟨hw1, hw2, hw3⟩ : _ ∧ _ ∧ _)
  refine rEn baseES 300 (99) 900 80 (hI 11 1389572) ([]) [(wc6 a s), (wc3 a s), (wc13 a s), (wc14 a s), (wc17 a s), ((wc1 a s) == 120, true), (wc12 a s), (wc7 a s), (wc15 a s), (decide (hexI (wc2 a s) < 0), true)] wc9 (oc1 ?_ (oc9 ?_ ?_ ?_ ?_ ?_ ?_ ?_ ?_ ?_ okn)) ?_
  all_goals try dsimp only [wc6, wc16, wc3, wc13, wc1, wc14, wc17, wc12, wc19, wc7, wc15, wc2, wc9]
  all_goals exact sc10

set_option maxHeartbeats 4000000 in
theorem esF2 (t0 t1 : List UInt8) (s : List UInt8) (a : Nat) (ha : a < s.length) (hs : s.length ≤ 100000) (h : (s.getD a 0).toNat = 120) (h3 : a + 2 < s.length) (x1 : 0 ≤ hexI ((s.getD (a + 1) 0).toNat : Int)) (x2 : hexI ((s.getD (a + 2) 0).toNat : Int) < 0)  :
    (RunsTo Tryd.prog 140 [.code (bodyOf Tryd.f140)] (envOf [vP 63] Tryd.f140.ntmps) (wc5 a s t0 t1) 80 (.tup [(false, .vi .u8 fun _ => (0 : Int)), (false, vErr 6)]) wc18 300) := by
  have hw1 : IntKind.i64.wrap ((a : Int) + 1) = ((a + 1 : Nat) : Int) := by rw [wr64 (by omega)]; rfl
  have hw2 : IntKind.i64.wrap (((a + 1 : Nat) : Int) + 1) = ((a + 2 : Nat) : Int) := by rw [wr64 (by omega)]; omega
  have hw3 : IntKind.i64.wrap (((a + 2 : Nat) : Int) + 1) = ((a + 3 : Nat) : Int) := by rw [wr64 (by omega)]; omega
  have hb0 := u8nat (s.getD a 0)
  have hb1 := u8nat (s.getD (a + 1) 0)
  have hb2 := u8nat (s.getD (a + 2) 0)
  have E' := (⟨hw1, hw2, hw3⟩ : _ ∧ _ ∧ _)
  refine rEn baseES 300 (99) 900 80 (hI 17 5700400132) ([]) [(wc6 a s), (wc3 a s), (wc13 a s), (wc14 a s), (wc17 a s), ((wc1 a s) == 120, true), (wc12 a s), (wc7 a s), (wc15 a s), (decide (hexI (wc2 a s) < 0), false), (decide (IntKind.i64.wrap (wc11 a) ≥ (wc16 s)), false), (wc20 a s), (decide (0 ≤ (wc4 a s) ∧ (wc4 a s) < 256), true), (decide (hexI (wc4 a s) < 0), true)] wc9 (oc5 ?_ ?_ ?_ ?_ ?_ (oc9 ?_ ?_ ?_ ?_ ?_ ?_ ?_ ?_ ?_ okn)) ?_
  all_goals try dsimp only [wc6, wc16, wc3, wc13, wc1, wc14, wc17, wc12, wc19, wc7, wc15, wc2, wc11, wc20, wc4, wc9]
  all_goals exact sc10

set_option maxHeartbeats 4000000 in
theorem esF (t0 t1 : List UInt8) (s : List UInt8) (a : Nat) (ha : a < s.length) (hs : s.length ≤ 100000) (d1 : (s.getD a 0).toNat ≠ 110) (d2 : (s.getD a 0).toNat ≠ 114) (d3 : (s.getD a 0).toNat ≠ 116) (d4 : (s.getD a 0).toNat ≠ 120) (d5 : (s.getD a 0).toNat ≠ 92) (d6 : (s.getD a 0).toNat ≠ 34) (d7 : (s.getD a 0).toNat ≠ 36)  :
    (RunsTo Tryd.prog 140 [.code (bodyOf Tryd.f140)] (envOf [vP 63] Tryd.f140.ntmps) (wc5 a s t0 t1) 80 (.tup [(false, .vi .u8 fun _ => (0 : Int)), (false, vErr 6)]) wc18 300) := by
  have hw1 : IntKind.i64.wrap ((a : Int) + 1) = ((a + 1 : Nat) : Int) := by rw [wr64 (by omega)]; rfl
  have hw2 : IntKind.i64.wrap (((a + 1 : Nat) : Int) + 1) = ((a + 2 : Nat) : Int) := by rw [wr64 (by omega)]; omega
  have hw3 : IntKind.i64.wrap (((a + 2 : Nat) : Int) + 1) = ((a + 3 : Nat) : Int) := by rw [wr64 (by omega)]; omega
  have hb0 := u8nat (s.getD a 0)
  have hb1 := u8nat (s.getD (a + 1) 0)
  have hb2 := u8nat (s.getD (a + 2) 0)
  have E' := (⟨hw1, hw2, hw3⟩ : _ ∧ _ ∧ _)
  refine rEn baseES 300 (99) 900 80 (hI 9 4) ([]) [(wc6 a s), (wc3 a s), (wc13 a s), (wc14 a s), (wc17 a s), ((wc1 a s) == 120, false), ((wc1 a s) == 92, false), ((wc1 a s) == 34, false), ((wc1 a s) == 36, false)] wc9 (oc9 ?_ ?_ ?_ ?_ ?_ ?_ ?_ ?_ ?_ okn) ?_
  all_goals try dsimp only [wc6, wc16, wc3, wc13, wc1, wc14, wc17, wc9]
  all_goals exact sc10

end Go.Proofs.YtaleenklamognaaDoor

set_option linter.unusedSimpArgs false
set_option linter.unusedVariables false
set_option maxRecDepth 100000
namespace Go.Proofs.YtaleenklamognaaDoor
open Go.Sx

open WordR
theorem nat_ne {c k : UInt8} (h : c ≠ k) : c.toNat ≠ k.toNat := fun e => h (UInt8.toNat_inj.1 e)
theorem u8nat' (c : UInt8) : UInt8.ofNat c.toNat = c := by simp
theorem esT (t0 t1 s : List UInt8) (a : Nat) (ha : a ≤ s.length) (hs : s.length ≤ 100000) : match escR (s.drop a) with
    | .byte c n => RunsTo Tryd.prog 140 [.code (bodyOf Tryd.f140)] (envOf [vP 63] Tryd.f140.ntmps) (Sx.look (sentEnts 23 213 [(5, t0), (6, t1)] ++ (rdW 63 s (a : Nat)))) 80 (.tup [(false, .vi .u8 fun _ => (c.toNat : Int)), (false, .ve0)]) (Sx.look (rdW 63 s (a + (n - 1) : Nat))) 300
    | .var _ _ => False
    | .err e => (e = 3 ∧ RunsTo Tryd.prog 140 [.code (bodyOf Tryd.f140)] (envOf [vP 63] Tryd.f140.ntmps) (Sx.look (sentEnts 23 213 [(5, t0), (6, t1)] ++ (rdW 63 s (a : Nat)))) 80 (.tup [(false, .vi .u8 fun _ => (0 : Int)), (false, vErr 5)]) (Sx.look ([])) 300) ∨ (e = 5 ∧ RunsTo Tryd.prog 140 [.code (bodyOf Tryd.f140)] (envOf [vP 63] Tryd.f140.ntmps) (Sx.look (sentEnts 23 213 [(5, t0), (6, t1)] ++ (rdW 63 s (a : Nat)))) 80 (.tup [(false, .vi .u8 fun _ => (0 : Int)), (false, vErr 6)]) (Sx.look ([])) 300) := by
  by_cases hl : s.length ≤ a
  · rw [List.drop_eq_nil_of_le hl]
    exact .inl ⟨rfl, esE t0 t1 s a (by omega) hs⟩
  have hl : a < s.length := by omega
  rw [drop_at s hl, escR]
  by_cases d1 : s.getD a 0 = 110
  · rw [if_pos d1]; exact esN t0 t1 s a hl hs (by rw [d1]; rfl)
  rw [if_neg d1]
  by_cases d2 : s.getD a 0 = 114
  · rw [if_pos d2]; exact esR t0 t1 s a hl hs (by rw [d2]; rfl)
  rw [if_neg d2]
  by_cases d3 : s.getD a 0 = 116
  · rw [if_pos d3]; exact esTb t0 t1 s a hl hs (by rw [d3]; rfl)
  rw [if_neg d3]
  by_cases d4 : s.getD a 0 = 120
  · rw [if_pos d4]
    have d4 : (s.getD a 0).toNat = 120 := by rw [d4]; rfl
    by_cases h1 : s.length ≤ a + 1
    · rw [List.drop_eq_nil_of_le h1]
      exact .inl ⟨rfl, esE1 t0 t1 s a hl hs d4 (by omega)⟩
    have h1 : a + 1 < s.length := by omega
    rw [drop_at s h1]
    by_cases h2 : s.length ≤ a + 2
    · rw [List.drop_eq_nil_of_le h2, hexR]
      by_cases x1 : hexI (nat (s.getD (a + 1) 0)) < 0
      · rw [if_pos x1]; exact .inr ⟨rfl, esF1 t0 t1 s a hl hs d4 h1 x1⟩
      · rw [if_neg x1]; exact .inl ⟨rfl, esE2 t0 t1 s a hl hs d4 (by omega) (by unfold nat at x1; omega)⟩
    have h2 : a + 2 < s.length := by omega
    rw [drop_at s h2, hexR]
    by_cases x1 : hexI (nat (s.getD (a + 1) 0)) < 0
    · rw [if_pos x1]; exact .inr ⟨rfl, esF1 t0 t1 s a hl hs d4 h1 x1⟩
    rw [if_neg x1]
    by_cases x2 : hexI (nat (s.getD (a + 2) 0)) < 0
    · rw [if_pos x2]; exact .inr ⟨rfl, esF2 t0 t1 s a hl hs d4 h2 (by unfold nat at x1; omega) x2⟩
    rw [if_neg x2]
    unfold nat at x1 x2
    have q := esX t0 t1 s a hl hs d4 h2 (by omega) (by omega)
    have l1 := hexI_lt ((s.getD (a + 1) 0).toNat : Int)
    have l2 := hexI_lt ((s.getD (a + 2) 0).toNat : Int)
    have e : (((UInt8.ofNat (16 * hexI (nat (s.getD (a + 1) 0)) + hexI (nat (s.getD (a + 2) 0))).toNat).toNat : Nat) : Int) = 16 * hexI ((s.getD (a + 1) 0).toNat : Int) + hexI ((s.getD (a + 2) 0).toNat : Int) := u8of (by unfold nat; omega)
    simp only [e]
    exact q
  rw [if_neg d4]
  by_cases d5 : s.getD a 0 = 92 ∨ s.getD a 0 = 34 ∨ s.getD a 0 = 36
  · rw [if_pos d5]
    exact esB t0 t1 s a hl hs (by rcases d5 with e | e | e <;> rw [e] <;> decide)
  rw [if_neg d5]
  exact .inr ⟨rfl, esF t0 t1 s a hl hs (nat_ne d1) (nat_ne d2) (nat_ne d3) (nat_ne d4) (nat_ne fun e => d5 (.inl e)) (nat_ne fun e => d5 (.inr (.inl e))) (nat_ne fun e => d5 (.inr (.inr e)))⟩
theorem esOkT (t0 t1 : List UInt8) (s : List UInt8) (a : Nat) (ha : a ≤ s.length) (hs : s.length ≤ 100000) (h : isBy (escR (s.drop a)) = true) : RunsTo Tryd.prog 140 [.code (bodyOf Tryd.f140)] (envOf [vP 63] Tryd.f140.ntmps) (Sx.look (sentEnts 23 213 [(5, t0), (6, t1)] ++ (rdW 63 s (a : Nat)))) 80 (.tup [(false, .vi .u8 fun _ => ((byC (escR (s.drop a))).toNat : Int)), (false, .ve0)]) (Sx.look (rdW 63 s (a + (o1N (escR (s.drop a)) - 1) : Nat))) 300 := by
  have q := esT t0 t1 s a ha hs
  cases hz : escR (s.drop a) with
  | byte c n => rw [hz] at q; exact q
  | var x n =>
    rw [hz] at h; cases h
  | err e =>
    rw [hz] at h; cases h
theorem esShT (t0 t1 : List UInt8) (s : List UInt8) (a : Nat) (ha : a ≤ s.length) (hs : s.length ≤ 100000) (h : isEr 3 (escR (s.drop a)) = true) : RunsTo Tryd.prog 140 [.code (bodyOf Tryd.f140)] (envOf [vP 63] Tryd.f140.ntmps) (Sx.look (sentEnts 23 213 [(5, t0), (6, t1)] ++ (rdW 63 s (a : Nat)))) 80 (.tup [(false, .vi .u8 fun _ => (0 : Int)), (false, vErr 5)]) (Sx.look ([])) 300 := by
  have q := esT t0 t1 s a ha hs
  cases hz : escR (s.drop a) with
  | byte c n =>
    rw [hz] at h; cases h
  | var x n =>
    rw [hz] at h; cases h
  | err e =>
    rw [hz] at h q
    have he : e = 3 := by simpa [isEr] using h
    subst he
    simpa using q
theorem esFoT (t0 t1 : List UInt8) (s : List UInt8) (a : Nat) (ha : a ≤ s.length) (hs : s.length ≤ 100000) (h : isEr 5 (escR (s.drop a)) = true) : RunsTo Tryd.prog 140 [.code (bodyOf Tryd.f140)] (envOf [vP 63] Tryd.f140.ntmps) (Sx.look (sentEnts 23 213 [(5, t0), (6, t1)] ++ (rdW 63 s (a : Nat)))) 80 (.tup [(false, .vi .u8 fun _ => (0 : Int)), (false, vErr 6)]) (Sx.look ([])) 300 := by
  have q := esT t0 t1 s a ha hs
  cases hz : escR (s.drop a) with
  | byte c n =>
    rw [hz] at h; cases h
  | var x n =>
    rw [hz] at h; cases h
  | err e =>
    rw [hz] at h q
    have he : e = 5 := by simpa [isEr] using h
    subst he
    simpa using q
def esOkP : PC := { args := [.v (.vp 63)], heap := [⟨63, true, 2, .tc (.vs 0) (.tc (.vi .i64 1) .t0)⟩], gs := [5, 6], G := 23, tp := 213, n := 80, n' := 300, cond := fun e => decide (0 ≤ eI e 1 []) && (decide ((eI e 1 []).toNat ≤ (eS e 0 []).length) && (decide ((eS e 0 []).length ≤ 100000) && isBy (escR ((eS e 0 []).drop (eI e 1 []).toNat)))), v := fun e => .tup [(false, .vi .u8 fun _ => ((byC (escR ((eS e 0 []).drop (eI e 1 []).toNat))).toNat : Int)), (false, .ve0)], post := fun e => rdW 63 (eS e 0 []) ((eI e 1 []).toNat + (o1N (escR ((eS e 0 []).drop (eI e 1 []).toNat)) - 1) : Nat) }
theorem esOkP_pc : PC.Runs Tryd.prog 140 Tryd.f140 (bodyOf Tryd.f140) esOkP := ⟨Tryd.func140, by kernel_rfl, (fun g hg => by first | (cases hg; done) | (revert g; show ∀ g ∈ ([5, 6] : List Nat), g < 23; decide)), fun e H hc => by
  have hc : (decide (0 ≤ eI e 1 []) && (decide ((eI e 1 []).toNat ≤ (eS e 0 []).length) && (decide ((eS e 0 []).length ≤ 100000) && isBy (escR ((eS e 0 []).drop (eI e 1 []).toNat))))) = true := hc
  try simp only [Bool.and_eq_true, decide_eq_true_eq, Nat.beq_eq] at hc
  exact by obtain ⟨h1, h2, h3, h4⟩ := hc; have hj : ((eI e 1 []).toNat : Int) = eI e 1 [] := Int.toNat_of_nonneg h1; have q := esOkT (textAt H 28) (textAt H 29) (eS e 0 []) (eI e 1 []).toNat h2 h3 h4; rw [hj] at q; exact q⟩
def esShP : PC := { args := [.v (.vp 63)], heap := [⟨63, true, 2, .tc (.vs 0) (.tc (.vi .i64 1) .t0)⟩], gs := [5, 6], G := 23, tp := 213, n := 80, n' := 300, cond := fun e => decide (0 ≤ eI e 1 []) && (decide ((eI e 1 []).toNat ≤ (eS e 0 []).length) && (decide ((eS e 0 []).length ≤ 100000) && isEr 3 (escR ((eS e 0 []).drop (eI e 1 []).toNat)))), v := fun e => .tup [(false, .vi .u8 fun _ => (0 : Int)), (false, vErr 5)], post := fun e => [] }
theorem esShP_pc : PC.Runs Tryd.prog 140 Tryd.f140 (bodyOf Tryd.f140) esShP := ⟨Tryd.func140, by kernel_rfl, (fun g hg => by first | (cases hg; done) | (revert g; show ∀ g ∈ ([5, 6] : List Nat), g < 23; decide)), fun e H hc => by
  have hc : (decide (0 ≤ eI e 1 []) && (decide ((eI e 1 []).toNat ≤ (eS e 0 []).length) && (decide ((eS e 0 []).length ≤ 100000) && isEr 3 (escR ((eS e 0 []).drop (eI e 1 []).toNat))))) = true := hc
  try simp only [Bool.and_eq_true, decide_eq_true_eq, Nat.beq_eq] at hc
  exact by obtain ⟨h1, h2, h3, h4⟩ := hc; have hj : ((eI e 1 []).toNat : Int) = eI e 1 [] := Int.toNat_of_nonneg h1; have q := esShT (textAt H 28) (textAt H 29) (eS e 0 []) (eI e 1 []).toNat h2 h3 h4; rw [hj] at q; exact q⟩
def esFoP : PC := { args := [.v (.vp 63)], heap := [⟨63, true, 2, .tc (.vs 0) (.tc (.vi .i64 1) .t0)⟩], gs := [5, 6], G := 23, tp := 213, n := 80, n' := 300, cond := fun e => decide (0 ≤ eI e 1 []) && (decide ((eI e 1 []).toNat ≤ (eS e 0 []).length) && (decide ((eS e 0 []).length ≤ 100000) && isEr 5 (escR ((eS e 0 []).drop (eI e 1 []).toNat)))), v := fun e => .tup [(false, .vi .u8 fun _ => (0 : Int)), (false, vErr 6)], post := fun e => [] }
theorem esFoP_pc : PC.Runs Tryd.prog 140 Tryd.f140 (bodyOf Tryd.f140) esFoP := ⟨Tryd.func140, by kernel_rfl, (fun g hg => by first | (cases hg; done) | (revert g; show ∀ g ∈ ([5, 6] : List Nat), g < 23; decide)), fun e H hc => by
  have hc : (decide (0 ≤ eI e 1 []) && (decide ((eI e 1 []).toNat ≤ (eS e 0 []).length) && (decide ((eS e 0 []).length ≤ 100000) && isEr 5 (escR ((eS e 0 []).drop (eI e 1 []).toNat))))) = true := hc
  try simp only [Bool.and_eq_true, decide_eq_true_eq, Nat.beq_eq] at hc
  exact by obtain ⟨h1, h2, h3, h4⟩ := hc; have hj : ((eI e 1 []).toNat : Int) = eI e 1 [] := Int.toNat_of_nonneg h1; have q := esFoT (textAt H 28) (textAt H 29) (eS e 0 []) (eI e 1 []).toNat h2 h3 h4; rw [hj] at q; exact q⟩
def sumsVO : List (FuncId × Summ) := [(90, nmOkP.summ 46), (66, bgP.summ 46), (91, fgP.summ 46)]
theorem baseVO : Base0 Tryd.prog sumsVO := (((baseO.cons Tryd.func91 (by kernel_rfl) (PC.summ_ok fgP_pc gtopG)).cons Tryd.func66 (by kernel_rfl) (PC.summ_ok bgP_pc gtopG)).cons Tryd.func90 (by kernel_rfl) (PC.summ_ok nmOkP_pc gtopG))
def sumsVL : List (FuncId × Summ) := [(90, nmLoP.summ 46), (66, bgP.summ 46), (91, fgP.summ 46)]
theorem baseVL : Base0 Tryd.prog sumsVL := (((baseO.cons Tryd.func91 (by kernel_rfl) (PC.summ_ok fgP_pc gtopG)).cons Tryd.func66 (by kernel_rfl) (PC.summ_ok bgP_pc gtopG)).cons Tryd.func90 (by kernel_rfl) (PC.summ_ok nmLoP_pc gtopG))

variable (a : Nat) (s t0 t1 t2 : List UInt8)
abbrev wd1 := (↑(s.getD (IntKind.i64.wrap ((a : Int) + 0)).toNat (0 : UInt8)).toNat : Int)
abbrev wd2 := (decide (0 ≤ IntKind.i64.wrap ((a : Int) + 0) ∧ IntKind.i64.wrap ((a : Int) + 0) < (↑s.length : Int)), true)
abbrev wd3 := (decide (IntKind.i64.wrap ((a : Int) + 0) ≥ (↑s.length : Int)), false)
abbrev wd4 := ((([] : List UInt8) = [] ∧ ([] : List UInt8) = []) ∧ 0 = 0 ∧ True) ∧ True
abbrev wd5 := Sx.look (sentEnts 23 213 [(5, t0), (6, t1), (0, t2)] ++ (rdW 63 s (a : Nat)))
abbrev wd6 := (decide ((a : Int) ≥ (↑s.length : Int)), false)
set_option maxHeartbeats 4000000 in
theorem vrE (t0 t1 t2 : List UInt8) (s : List UInt8) (a : Nat) (ha : a = s.length) (hs : s.length ≤ 100000)  :
    (RunsTo Tryd.prog 139 [.code (bodyOf Tryd.f139)] (envOf [vP 63] Tryd.f139.ntmps) (wd5 a s t0 t1 t2) 80 (.tup [(true, .tc (.vs fun _ => []) (.tc (.vs fun _ => []) .t0)), (false, vErr 5)]) (Sx.look ([])) 700) := by
  have hw1 : IntKind.i64.wrap ((a : Int) + 1) = ((a + 1 : Nat) : Int) := by rw [wr64 (by omega)]; rfl
  have hw2 : IntKind.i64.wrap (((a + 1 : Nat) : Int) + 1) = ((a + 2 : Nat) : Int) := by rw [wr64 (by omega)]; omega
  have hw3 : IntKind.i64.wrap (((a + 2 : Nat) : Int) + 1) = ((a + 3 : Nat) : Int) := by rw [wr64 (by omega)]; omega
  have hb0 := u8nat (s.getD a 0)
  have hb1 := u8nat (s.getD (a + 1) 0)
  have hb2 := u8nat (s.getD (a + 2) 0)
  have hl := span_le' goI s (show a ≤ s.length by omega)
  have htl : (txt s a (spanR goI (s.drop a))).length = spanR goI (s.drop a) := by simp only [txt, List.length_drop, List.length_take]; omega
  have hz : IntKind.i64.wrap ((a : Int) + 0) = (a : Int) := by rw [wr64 (by omega)]; omega
  have E' := (⟨hw1, hw2, hw3, htl, hz⟩ : _ ∧ _ ∧ _ ∧ _ ∧ _)
  refine rEn baseVO 300 (99) 900 80 (hI 2 5) ([]) [(decide (IntKind.i64.wrap ((a : Int) + 0) ≥ (↑s.length : Int)), true), (decide ((a : Int) ≥ (↑s.length : Int)), true)] wd4 (oc2 ?_ ?_ okn) ?_
  all_goals try dsimp only [wd4]
  all_goals exact sc10

set_option maxHeartbeats 4000000 in
theorem vrD (t0 t1 t2 : List UInt8) (s : List UInt8) (a : Nat) (ha : a < s.length) (hs : s.length ≤ 100000) (h : figI ((s.getD a 0).toNat : Int) = true)  :
    (RunsTo Tryd.prog 139 [.code (bodyOf Tryd.f139)] (envOf [vP 63] Tryd.f139.ntmps) (wd5 a s t0 t1 t2) 80 (.tup [(true, .tc (.vs fun _ => [s.getD a 0]) (.tc (.vs fun _ => []) .t0)), (false, .ve0)]) (Sx.look (rdW 63 s (a + 1 : Nat))) 700) := by
  have hw1 : IntKind.i64.wrap ((a : Int) + 1) = ((a + 1 : Nat) : Int) := by rw [wr64 (by omega)]; rfl
  have hw2 : IntKind.i64.wrap (((a + 1 : Nat) : Int) + 1) = ((a + 2 : Nat) : Int) := by rw [wr64 (by omega)]; omega
  have hw3 : IntKind.i64.wrap (((a + 2 : Nat) : Int) + 1) = ((a + 3 : Nat) : Int) := by rw [wr64 (by omega)]; omega
  have hb0 := u8nat (s.getD a 0)
  have hb1 := u8nat (s.getD (a + 1) 0)
  have hb2 := u8nat (s.getD (a + 2) 0)
  have hl := span_le' goI s (show a ≤ s.length by omega)
  have htl : (txt s a (spanR goI (s.drop a))).length = spanR goI (s.drop a) := by simp only [txt, List.length_drop, List.length_take]; omega
  have hz : IntKind.i64.wrap ((a : Int) + 0) = (a : Int) := by rw [wr64 (by omega)]; omega
  have E' := (⟨hw1, hz, hw2, hw3, htl⟩ : _ ∧ _ ∧ _ ∧ _ ∧ _)
  refine rEn baseVO 300 (99) 900 80 (hI 6 3524) ([]) [(wd3 a s), (wd2 a s), (wd6 a s), (figI (wd1 a s), true)] ((([s.getD a (0 : UInt8)] = bytesOf (fun is => (wd1 a s)) [] (0 : Nat) (1 : Nat) ∧ ([] : List UInt8) = []) ∧ True ∧ True) ∧ s = s ∧ (↑(a + (1 : Nat)) : Int) = IntKind.i64.wrap ((a : Int) + 1)) (oc4 ?_ ?_ ?_ ?_ okn) ?_
  all_goals try dsimp only [wd3, wd2, wd6, wd1]
  all_goals exact sc13

set_option maxHeartbeats 4000000 in
theorem vrF (t0 t1 t2 : List UInt8) (s : List UInt8) (a : Nat) (ha : a < s.length) (hs : s.length ≤ 100000) (h : figI ((s.getD a 0).toNat : Int) = false) (h2 : ltrI ((s.getD a 0).toNat : Int) = false)  :
    (RunsTo Tryd.prog 139 [.code (bodyOf Tryd.f139)] (envOf [vP 63] Tryd.f139.ntmps) (wd5 a s t0 t1 t2) 80 (.tup [(true, .tc (.vs fun _ => []) (.tc (.vs fun _ => []) .t0)), (false, vErr 6)]) (Sx.look ([])) 700) := by
  have hw1 : IntKind.i64.wrap ((a : Int) + 1) = ((a + 1 : Nat) : Int) := by rw [wr64 (by omega)]; rfl
  have hw2 : IntKind.i64.wrap (((a + 1 : Nat) : Int) + 1) = ((a + 2 : Nat) : Int) := by rw [wr64 (by omega)]; omega
  have hw3 : IntKind.i64.wrap (((a + 2 : Nat) : Int) + 1) = ((a + 3 : Nat) : Int) := by rw [wr64 (by omega)]; omega
  have hb0 := u8nat (s.getD a 0)
  have hb1 := u8nat (s.getD (a + 1) 0)
  have hb2 := u8nat (s.getD (a + 2) 0)
  have hl := span_le' goI s (show a ≤ s.length by omega)
  have htl : (txt s a (spanR goI (s.drop a))).length = spanR goI (s.drop a) := by simp only [txt, List.length_drop, List.length_take]; omega
  have hz : IntKind.i64.wrap ((a : Int) + 0) = (a : Int) := by rw [wr64 (by omega)]; omega
  have E' := (⟨hw1, hw2, hw3, htl, hz⟩ : _ ∧ _ ∧ _ ∧ _ ∧ _)
  refine rEn baseVO 300 (99) 900 80 (hI 7 7364) ([]) [(wd3 a s), (wd2 a s), (wd6 a s), (figI (wd1 a s), false), (!ltrI (wd1 a s), true)] wd4 (oc5 ?_ ?_ ?_ ?_ ?_ okn) ?_
  all_goals try dsimp only [wd3, wd2, wd6, wd1, wd4]
  all_goals exact sc10

set_option maxHeartbeats 4000000 in
theorem vrN (t0 t1 t2 : List UInt8) (s : List UInt8) (a : Nat) (ha : a < s.length) (hs : s.length ≤ 100000) (h : figI ((s.getD a 0).toNat : Int) = false) (h2 : ltrI ((s.getD a 0).toNat : Int) = true) (h3 : spanR goI (s.drop a) ≤ 24)  :
    (RunsTo Tryd.prog 139 [.code (bodyOf Tryd.f139)] (envOf [vP 63] Tryd.f139.ntmps) (wd5 a s t0 t1 t2) 80 (.tup [(true, .tc (.vs fun _ => txt s a (spanR goI (s.drop a))) (.tc (.vs fun _ => []) .t0)), (false, .ve0)]) (Sx.look (rdW 63 s (a + spanR goI (s.drop a) : Nat))) 700) := by
  have hw1 : IntKind.i64.wrap ((a : Int) + 1) = ((a + 1 : Nat) : Int) := by rw [wr64 (by omega)]; rfl
  have hw2 : IntKind.i64.wrap (((a + 1 : Nat) : Int) + 1) = ((a + 2 : Nat) : Int) := by rw [wr64 (by omega)]; omega
  have hw3 : IntKind.i64.wrap (((a + 2 : Nat) : Int) + 1) = ((a + 3 : Nat) : Int) := by rw [wr64 (by omega)]; omega
  have hb0 := u8nat (s.getD a 0)
  have hb1 := u8nat (s.getD (a + 1) 0)
  have hb2 := u8nat (s.getD (a + 2) 0)
  have hl := span_le' goI s (show a ≤ s.length by omega)
  have htl : (txt s a (spanR goI (s.drop a))).length = spanR goI (s.drop a) := by simp only [txt, List.length_drop, List.length_take]; omega
  have hz : IntKind.i64.wrap ((a : Int) + 0) = (a : Int) := by rw [wr64 (by omega)]; omega
  have E' := (⟨hw1, hw2, hw3, htl, hz⟩ : _ ∧ _ ∧ _ ∧ _ ∧ _)
  refine rEn baseVO 300 (99) 900 80 (hI 8 19652) ([]) [(wd3 a s), (wd2 a s), (wd6 a s), (figI (wd1 a s), false), (!ltrI (wd1 a s), false), (decide (0 ≤ (a : Int)) && (decide ((a : Int).toNat ≤ s.length) && (decide (s.length ≤ (100000 : Nat)) && decide (spanR goI (List.drop (a : Int).toNat s) ≤ (24 : Nat)))), true)] (((txt s a (spanR goI (List.drop a s)) = txt s (a : Int).toNat (spanR goI (List.drop (a : Int).toNat s)) ∧ ([] : List UInt8) = []) ∧ True ∧ True) ∧ s = s ∧ (↑(a + spanR goI (List.drop a s)) : Int) = (↑((a : Int).toNat + spanR goI (List.drop (a : Int).toNat s)) : Int)) (oc6 ?_ ?_ ?_ ?_ ?_ ?_ okn) ?_
  all_goals try dsimp only [wd3, wd2, wd6, wd1]
  all_goals exact sc10

set_option maxHeartbeats 4000000 in
theorem vrL (t0 t1 t2 : List UInt8) (s : List UInt8) (a : Nat) (ha : a < s.length) (hs : s.length ≤ 100000) (h : figI ((s.getD a 0).toNat : Int) = false) (h2 : ltrI ((s.getD a 0).toNat : Int) = true) (h3 : 24 < spanR goI (s.drop a))  :
    (RunsTo Tryd.prog 139 [.code (bodyOf Tryd.f139)] (envOf [vP 63] Tryd.f139.ntmps) (wd5 a s t0 t1 t2) 80 (.tup [(true, .tc (.vs fun _ => []) (.tc (.vs fun _ => []) .t0)), (false, vErr 0)]) (Sx.look ([])) 700) := by
  have hw1 : IntKind.i64.wrap ((a : Int) + 1) = ((a + 1 : Nat) : Int) := by rw [wr64 (by omega)]; rfl
  have hw2 : IntKind.i64.wrap (((a + 1 : Nat) : Int) + 1) = ((a + 2 : Nat) : Int) := by rw [wr64 (by omega)]; omega
  have hw3 : IntKind.i64.wrap (((a + 2 : Nat) : Int) + 1) = ((a + 3 : Nat) : Int) := by rw [wr64 (by omega)]; omega
  have hb0 := u8nat (s.getD a 0)
  have hb1 := u8nat (s.getD (a + 1) 0)
  have hb2 := u8nat (s.getD (a + 2) 0)
  have hl := span_le' goI s (show a ≤ s.length by omega)
  have htl : (txt s a (spanR goI (s.drop a))).length = spanR goI (s.drop a) := by simp only [txt, List.length_drop, List.length_take]; omega
  have hz : IntKind.i64.wrap ((a : Int) + 0) = (a : Int) := by rw [wr64 (by omega)]; omega
  have E' := (⟨hw1, hw2, hw3, htl, hz⟩ : _ ∧ _ ∧ _ ∧ _ ∧ _)
  refine rEn baseVL 300 (99) 900 80 (hI 8 19652) ([]) [(wd3 a s), (wd2 a s), (wd6 a s), (figI (wd1 a s), false), (!ltrI (wd1 a s), false), (decide (0 ≤ (a : Int)) && (decide ((a : Int).toNat ≤ s.length) && (decide (s.length ≤ (100000 : Nat)) && decide ((24 : Nat) < spanR goI (List.drop (a : Int).toNat s)))), true)] wd4 (oc6 ?_ ?_ ?_ ?_ ?_ ?_ okn) ?_
  all_goals try dsimp only [wd3, wd2, wd6, wd1, wd4]
  all_goals exact sc10

end Go.Proofs.YtaleenklamognaaDoor

set_option linter.unusedSimpArgs false
set_option linter.unusedVariables false
set_option maxRecDepth 100000
namespace Go.Proofs.YtaleenklamognaaDoor
open Go.Sx

open WordR
def zP : Pc := ⟨[], []⟩
def prV (P : List Pc) : Ix → List UInt8 := fun is => (P.getD (is.headD 0) zP).var
def prL (P : List Pc) : Ix → List UInt8 := fun is => (P.getD (is.headD 0) zP).lit
def prE (l : Nat) (P : List Pc) : List Ent := [⟨l, true, none, 2, .ta P.length (.tc (.vs (prV P)) (.tc (.vs (prL P)) .t0))⟩]
def pcsOf (n : Nat) (V L : Ix → List UInt8) : List Pc := (List.range n).map fun i => ⟨V [i], L [i]⟩
def u8o (n : Int) : UInt8 := UInt8.ofNat n.toNat
def prR (l M : Nat) (V L : Ix → List UInt8) : List Ent := [⟨l, true, none, 2, .ta M (.tc (.vs V) (.tc (.vs L) .t0))⟩]
/-- The first piece that is too long. -/
def ixL (L : Ix → List UInt8) : Nat → Nat → Int
  | 0, _ => -1
  | k + 1, i => if 400 < (L [i]).length then (i : Int) else ixL L k (i + 1)
theorem vrT (t0 t1 t2 s : List UInt8) (a : Nat) (ha : a ≤ s.length) (hs : s.length ≤ 100000) : match varR (s.drop a) with
    | .var x n => RunsTo Tryd.prog 139 [.code (bodyOf Tryd.f139)] (envOf [vP 63] Tryd.f139.ntmps) (Sx.look (sentEnts 23 213 [(5, t0), (6, t1), (0, t2)] ++ (rdW 63 s (a : Nat)))) 80 (.tup [(true, .tc (.vs fun _ => x) (.tc (.vs fun _ => []) .t0)), (false, .ve0)]) (Sx.look (rdW 63 s (a + (n - 1) : Nat))) 700
    | .byte _ _ => False
    | .err e => (e = 3 ∧ RunsTo Tryd.prog 139 [.code (bodyOf Tryd.f139)] (envOf [vP 63] Tryd.f139.ntmps) (Sx.look (sentEnts 23 213 [(5, t0), (6, t1), (0, t2)] ++ (rdW 63 s (a : Nat)))) 80 (.tup [(true, .tc (.vs fun _ => []) (.tc (.vs fun _ => []) .t0)), (false, vErr 5)]) (Sx.look ([])) 700) ∨ (e = 5 ∧ RunsTo Tryd.prog 139 [.code (bodyOf Tryd.f139)] (envOf [vP 63] Tryd.f139.ntmps) (Sx.look (sentEnts 23 213 [(5, t0), (6, t1), (0, t2)] ++ (rdW 63 s (a : Nat)))) 80 (.tup [(true, .tc (.vs fun _ => []) (.tc (.vs fun _ => []) .t0)), (false, vErr 6)]) (Sx.look ([])) 700) ∨ (e = 4 ∧ RunsTo Tryd.prog 139 [.code (bodyOf Tryd.f139)] (envOf [vP 63] Tryd.f139.ntmps) (Sx.look (sentEnts 23 213 [(5, t0), (6, t1), (0, t2)] ++ (rdW 63 s (a : Nat)))) 80 (.tup [(true, .tc (.vs fun _ => []) (.tc (.vs fun _ => []) .t0)), (false, vErr 0)]) (Sx.look ([])) 700) := by
  by_cases hl : s.length ≤ a
  · rw [List.drop_eq_nil_of_le hl]
    exact .inl ⟨rfl, vrE t0 t1 t2 s a (by omega) hs⟩
  have hl : a < s.length := by omega
  have hd := drop_at s hl
  have hv : varR (s.drop a) = if figI (nat (s.getD a 0)) = true then .var [s.getD a 0] 2 else if ltrI (nat (s.getD a 0)) = false then .err 5 else if 24 < spanR goI (s.drop a) then .err 4 else .var ((s.drop a).take (spanR goI (s.drop a))) (spanR goI (s.drop a) + 1) := by
    rw [hd]; rfl
  rw [hv]
  unfold nat
  cases hf : figI ((s.getD a 0).toNat : Int) with
  | true => exact vrD t0 t1 t2 s a hl hs hf
  | false =>
    rw [if_neg (by decide)]
    cases hr : ltrI ((s.getD a 0).toNat : Int) with
    | false => exact .inr (.inl ⟨rfl, vrF t0 t1 t2 s a hl hs hf hr⟩)
    | true =>
      rw [if_neg (by decide)]
      by_cases h24 : 24 < spanR goI (s.drop a)
      · rw [if_pos h24]; exact .inr (.inr ⟨rfl, vrL t0 t1 t2 s a hl hs hf hr h24⟩)
      · rw [if_neg h24]
        have q := vrN t0 t1 t2 s a hl hs hf hr (by omega)
        unfold txt at q
        rw [take_drop] at q
        exact q
theorem vrOkT (t0 t1 t2 : List UInt8) (s : List UInt8) (a : Nat) (ha : a ≤ s.length) (hs : s.length ≤ 100000) (h : isVa (varR (s.drop a)) = true) : RunsTo Tryd.prog 139 [.code (bodyOf Tryd.f139)] (envOf [vP 63] Tryd.f139.ntmps) (Sx.look (sentEnts 23 213 [(5, t0), (6, t1), (0, t2)] ++ (rdW 63 s (a : Nat)))) 80 (.tup [(true, .tc (.vs fun _ => (vaX (varR (s.drop a)))) (.tc (.vs fun _ => []) .t0)), (false, .ve0)]) (Sx.look (rdW 63 s (a + (o1N (varR (s.drop a)) - 1) : Nat))) 700 := by
  have q := vrT t0 t1 t2 s a ha hs
  cases hz : varR (s.drop a) with
  | var x n => rw [hz] at q; exact q
  | byte c n =>
    rw [hz] at h; cases h
  | err e =>
    rw [hz] at h; cases h
theorem vrShT (t0 t1 t2 : List UInt8) (s : List UInt8) (a : Nat) (ha : a ≤ s.length) (hs : s.length ≤ 100000) (h : isEr 3 (varR (s.drop a)) = true) : RunsTo Tryd.prog 139 [.code (bodyOf Tryd.f139)] (envOf [vP 63] Tryd.f139.ntmps) (Sx.look (sentEnts 23 213 [(5, t0), (6, t1), (0, t2)] ++ (rdW 63 s (a : Nat)))) 80 (.tup [(true, .tc (.vs fun _ => []) (.tc (.vs fun _ => []) .t0)), (false, vErr 5)]) (Sx.look ([])) 700 := by
  have q := vrT t0 t1 t2 s a ha hs
  cases hz : varR (s.drop a) with
  | byte c n =>
    rw [hz] at h; cases h
  | var x n =>
    rw [hz] at h; cases h
  | err e =>
    rw [hz] at h q
    have he : e = 3 := by simpa [isEr] using h
    subst he
    simpa using q
theorem vrFoT (t0 t1 t2 : List UInt8) (s : List UInt8) (a : Nat) (ha : a ≤ s.length) (hs : s.length ≤ 100000) (h : isEr 5 (varR (s.drop a)) = true) : RunsTo Tryd.prog 139 [.code (bodyOf Tryd.f139)] (envOf [vP 63] Tryd.f139.ntmps) (Sx.look (sentEnts 23 213 [(5, t0), (6, t1), (0, t2)] ++ (rdW 63 s (a : Nat)))) 80 (.tup [(true, .tc (.vs fun _ => []) (.tc (.vs fun _ => []) .t0)), (false, vErr 6)]) (Sx.look ([])) 700 := by
  have q := vrT t0 t1 t2 s a ha hs
  cases hz : varR (s.drop a) with
  | byte c n =>
    rw [hz] at h; cases h
  | var x n =>
    rw [hz] at h; cases h
  | err e =>
    rw [hz] at h q
    have he : e = 5 := by simpa [isEr] using h
    subst he
    simpa using q
theorem vrLoT (t0 t1 t2 : List UInt8) (s : List UInt8) (a : Nat) (ha : a ≤ s.length) (hs : s.length ≤ 100000) (h : isEr 4 (varR (s.drop a)) = true) : RunsTo Tryd.prog 139 [.code (bodyOf Tryd.f139)] (envOf [vP 63] Tryd.f139.ntmps) (Sx.look (sentEnts 23 213 [(5, t0), (6, t1), (0, t2)] ++ (rdW 63 s (a : Nat)))) 80 (.tup [(true, .tc (.vs fun _ => []) (.tc (.vs fun _ => []) .t0)), (false, vErr 0)]) (Sx.look ([])) 700 := by
  have q := vrT t0 t1 t2 s a ha hs
  cases hz : varR (s.drop a) with
  | byte c n =>
    rw [hz] at h; cases h
  | var x n =>
    rw [hz] at h; cases h
  | err e =>
    rw [hz] at h q
    have he : e = 4 := by simpa [isEr] using h
    subst he
    simpa using q
def vrOkP : PC := { args := [.v (.vp 63)], heap := [⟨63, true, 2, .tc (.vs 0) (.tc (.vi .i64 1) .t0)⟩], gs := [5, 6, 0], G := 23, tp := 213, n := 80, n' := 700, cond := fun e => decide (0 ≤ eI e 1 []) && (decide ((eI e 1 []).toNat ≤ (eS e 0 []).length) && (decide ((eS e 0 []).length ≤ 100000) && isVa (varR ((eS e 0 []).drop (eI e 1 []).toNat)))), v := fun e => .tup [(true, .tc (.vs fun _ => (vaX (varR ((eS e 0 []).drop (eI e 1 []).toNat)))) (.tc (.vs fun _ => []) .t0)), (false, .ve0)], post := fun e => rdW 63 (eS e 0 []) ((eI e 1 []).toNat + (o1N (varR ((eS e 0 []).drop (eI e 1 []).toNat)) - 1) : Nat) }
theorem vrOkP_pc : PC.Runs Tryd.prog 139 Tryd.f139 (bodyOf Tryd.f139) vrOkP := ⟨Tryd.func139, by kernel_rfl, (fun g hg => by first | (cases hg; done) | (revert g; show ∀ g ∈ ([5, 6, 0] : List Nat), g < 23; decide)), fun e H hc => by
  have hc : (decide (0 ≤ eI e 1 []) && (decide ((eI e 1 []).toNat ≤ (eS e 0 []).length) && (decide ((eS e 0 []).length ≤ 100000) && isVa (varR ((eS e 0 []).drop (eI e 1 []).toNat))))) = true := hc
  try simp only [Bool.and_eq_true, decide_eq_true_eq, Nat.beq_eq] at hc
  exact by obtain ⟨h1, h2, h3, h4⟩ := hc; have hj : ((eI e 1 []).toNat : Int) = eI e 1 [] := Int.toNat_of_nonneg h1; have q := vrOkT (textAt H 28) (textAt H 29) (textAt H 23) (eS e 0 []) (eI e 1 []).toNat h2 h3 h4; rw [hj] at q; exact q⟩
def vrShP : PC := { args := [.v (.vp 63)], heap := [⟨63, true, 2, .tc (.vs 0) (.tc (.vi .i64 1) .t0)⟩], gs := [5, 6, 0], G := 23, tp := 213, n := 80, n' := 700, cond := fun e => decide (0 ≤ eI e 1 []) && (decide ((eI e 1 []).toNat ≤ (eS e 0 []).length) && (decide ((eS e 0 []).length ≤ 100000) && isEr 3 (varR ((eS e 0 []).drop (eI e 1 []).toNat)))), v := fun e => .tup [(true, .tc (.vs fun _ => []) (.tc (.vs fun _ => []) .t0)), (false, vErr 5)], post := fun e => [] }
theorem vrShP_pc : PC.Runs Tryd.prog 139 Tryd.f139 (bodyOf Tryd.f139) vrShP := ⟨Tryd.func139, by kernel_rfl, (fun g hg => by first | (cases hg; done) | (revert g; show ∀ g ∈ ([5, 6, 0] : List Nat), g < 23; decide)), fun e H hc => by
  have hc : (decide (0 ≤ eI e 1 []) && (decide ((eI e 1 []).toNat ≤ (eS e 0 []).length) && (decide ((eS e 0 []).length ≤ 100000) && isEr 3 (varR ((eS e 0 []).drop (eI e 1 []).toNat))))) = true := hc
  try simp only [Bool.and_eq_true, decide_eq_true_eq, Nat.beq_eq] at hc
  exact by obtain ⟨h1, h2, h3, h4⟩ := hc; have hj : ((eI e 1 []).toNat : Int) = eI e 1 [] := Int.toNat_of_nonneg h1; have q := vrShT (textAt H 28) (textAt H 29) (textAt H 23) (eS e 0 []) (eI e 1 []).toNat h2 h3 h4; rw [hj] at q; exact q⟩
def vrFoP : PC := { args := [.v (.vp 63)], heap := [⟨63, true, 2, .tc (.vs 0) (.tc (.vi .i64 1) .t0)⟩], gs := [5, 6, 0], G := 23, tp := 213, n := 80, n' := 700, cond := fun e => decide (0 ≤ eI e 1 []) && (decide ((eI e 1 []).toNat ≤ (eS e 0 []).length) && (decide ((eS e 0 []).length ≤ 100000) && isEr 5 (varR ((eS e 0 []).drop (eI e 1 []).toNat)))), v := fun e => .tup [(true, .tc (.vs fun _ => []) (.tc (.vs fun _ => []) .t0)), (false, vErr 6)], post := fun e => [] }
theorem vrFoP_pc : PC.Runs Tryd.prog 139 Tryd.f139 (bodyOf Tryd.f139) vrFoP := ⟨Tryd.func139, by kernel_rfl, (fun g hg => by first | (cases hg; done) | (revert g; show ∀ g ∈ ([5, 6, 0] : List Nat), g < 23; decide)), fun e H hc => by
  have hc : (decide (0 ≤ eI e 1 []) && (decide ((eI e 1 []).toNat ≤ (eS e 0 []).length) && (decide ((eS e 0 []).length ≤ 100000) && isEr 5 (varR ((eS e 0 []).drop (eI e 1 []).toNat))))) = true := hc
  try simp only [Bool.and_eq_true, decide_eq_true_eq, Nat.beq_eq] at hc
  exact by obtain ⟨h1, h2, h3, h4⟩ := hc; have hj : ((eI e 1 []).toNat : Int) = eI e 1 [] := Int.toNat_of_nonneg h1; have q := vrFoT (textAt H 28) (textAt H 29) (textAt H 23) (eS e 0 []) (eI e 1 []).toNat h2 h3 h4; rw [hj] at q; exact q⟩
def vrLoP : PC := { args := [.v (.vp 63)], heap := [⟨63, true, 2, .tc (.vs 0) (.tc (.vi .i64 1) .t0)⟩], gs := [5, 6, 0], G := 23, tp := 213, n := 80, n' := 700, cond := fun e => decide (0 ≤ eI e 1 []) && (decide ((eI e 1 []).toNat ≤ (eS e 0 []).length) && (decide ((eS e 0 []).length ≤ 100000) && isEr 4 (varR ((eS e 0 []).drop (eI e 1 []).toNat)))), v := fun e => .tup [(true, .tc (.vs fun _ => []) (.tc (.vs fun _ => []) .t0)), (false, vErr 0)], post := fun e => [] }
theorem vrLoP_pc : PC.Runs Tryd.prog 139 Tryd.f139 (bodyOf Tryd.f139) vrLoP := ⟨Tryd.func139, by kernel_rfl, (fun g hg => by first | (cases hg; done) | (revert g; show ∀ g ∈ ([5, 6, 0] : List Nat), g < 23; decide)), fun e H hc => by
  have hc : (decide (0 ≤ eI e 1 []) && (decide ((eI e 1 []).toNat ≤ (eS e 0 []).length) && (decide ((eS e 0 []).length ≤ 100000) && isEr 4 (varR ((eS e 0 []).drop (eI e 1 []).toNat))))) = true := hc
  try simp only [Bool.and_eq_true, decide_eq_true_eq, Nat.beq_eq] at hc
  exact by obtain ⟨h1, h2, h3, h4⟩ := hc; have hj : ((eI e 1 []).toNat : Int) = eI e 1 [] := Int.toNat_of_nonneg h1; have q := vrLoT (textAt H 28) (textAt H 29) (textAt H 23) (eS e 0 []) (eI e 1 []).toNat h2 h3 h4; rw [hj] at q; exact q⟩
theorem litP_len : ∀ (P : List Pc) (c : UInt8), (litP P c).length = if P ≠ [] ∧ (P.getD (P.length - 1) zP).var = [] then P.length else P.length + 1
  | [], c => rfl
  | [p], c => by
    by_cases h : p.var = []
    · simp [litP, h]
    · simp [litP, h]
  | p :: q :: r, c => by
    have ih := litP_len (q :: r) c
    simp only [litP, List.length_cons] at ih ⊢
    rw [ih]
    have e : (p :: q :: r).getD (r.length + 1 + 1 - 1) zP = (q :: r).getD (r.length + 1 - 1) zP := by simp
    rw [e]
    by_cases h : ((q :: r).getD (r.length + 1 - 1) zP).var = []
    · rw [if_pos ⟨by simp, h⟩, if_pos ⟨by simp, h⟩]
    · rw [if_neg (fun x => h x.2), if_neg (fun x => h x.2)]
theorem litP_new : ∀ (P : List Pc) (c : UInt8), (P = [] ∨ (P.getD (P.length - 1) zP).var ≠ []) → litP P c = P ++ [⟨[], [c]⟩]
  | [], c, _ => rfl
  | [p], c, h => by
    have h : p.var ≠ [] := by simpa using h
    simp [litP, h]
  | p :: q :: r, c, h => by
    have h : ((q :: r).getD ((q :: r).length - 1) zP).var ≠ [] := by simpa using h
    rw [litP, litP_new (q :: r) c (.inr h)]; rfl
theorem litP_old : ∀ (P : List Pc) (c : UInt8), P ≠ [] → (P.getD (P.length - 1) zP).var = [] → ∀ k, (litP P c).getD k zP = if k = P.length - 1 then ⟨[], (P.getD k zP).lit ++ [c]⟩ else P.getD k zP
  | [], c, h, _ => absurd rfl h
  | [p], c, _, h => by
    have h : p.var = [] := by simpa using h
    intro k
    rw [litP, if_pos h]
    cases k with
    | zero => simp
    | succ k => simp
  | p :: q :: r, c, _, h => by
    have h : ((q :: r).getD ((q :: r).length - 1) zP).var = [] := by simpa using h
    intro k
    have ih := litP_old (q :: r) c (by simp) h
    rw [litP]
    cases k with
    | zero => simp
    | succ k =>
      have := ih k
      simp only [List.getD_cons_succ, List.length_cons, Nat.add_sub_cancel] at this ⊢
      rw [this]
      by_cases hk : k = r.length
      · rw [if_pos hk, if_pos (by omega)]
      · rw [if_neg hk, if_neg (by omega)]
theorem pcsOf_len (n : Nat) (V L : Ix → List UInt8) : (pcsOf n V L).length = n := by simp [pcsOf]
theorem pcsOf_at {n k : Nat} (V L : Ix → List UInt8) (h : k < n) : (pcsOf n V L).getD k zP = ⟨V [k], L [k]⟩ := by
  simp [pcsOf, List.getD_eq_getElem?_getD, h]
theorem pcsOf_pr (P : List Pc) : pcsOf P.length (prV P) (prL P) = P := by
  apply List.ext_getElem?
  intro k
  simp only [pcsOf, List.getElem?_map]
  by_cases h : k < P.length
  · rw [List.getElem?_range h, List.getElem?_eq_getElem h]
    simp [prV, prL, List.getD_eq_getElem?_getD, List.getElem?_eq_getElem h]
  · rw [List.getElem?_eq_none (by simp; omega), List.getElem?_eq_none (by omega)]; rfl
theorem pr_at (P : List Pc) (k : Nat) : prV P [k] = (P.getD k zP).var ∧ prL P [k] = (P.getD k zP).lit := ⟨rfl, rfl⟩
/-- A piece more. -/
theorem pr_app (P : List Pc) (n : Nat) (V L v l : Ix → List UInt8) (hP : P = pcsOf n V L) (p : Pc) (hv : v [0] = p.var) (hl : l [0] = p.lit) : ∀ k, k < n + 1 → prV (P ++ [p]) [k] = appF n 0 V v [k] ∧ prL (P ++ [p]) [k] = appF n 0 L l [k] := by
  intro k hk
  have hlen : P.length = n := by rw [hP, pcsOf_len]
  simp only [prV, prL, appF, List.headD, Nat.zero_add]
  by_cases h : k < n
  · rw [if_pos h, if_pos h, List.getD_eq_getElem?_getD, List.getElem?_append_left (by omega), ← List.getD_eq_getElem?_getD, hP, pcsOf_at V L h]
    exact ⟨rfl, rfl⟩
  · have : k = n := by omega
    subst this
    rw [if_neg h, if_neg h, List.getD_eq_getElem?_getD, List.getElem?_append_right (by omega), hlen, Nat.sub_self]
    exact ⟨hv.symm, hl.symm⟩
theorem pr_set (P : List Pc) (n : Nat) (V L : Ix → List UInt8) (hP : P = pcsOf n V L) (hn : 0 < n) (hv : V [n - 1] = []) (c : UInt8) : ∀ k, k < n → prV (litP P c) [k] = V [k] ∧ prL (litP P c) [k] = upd L [n - 1] (L [n - 1] ++ [c]) [k] := by
  intro k hk
  have hlen : P.length = n := by rw [hP, pcsOf_len]
  have hne : P ≠ [] := fun e => by rw [e] at hlen; simp at hlen; omega
  have hq : P.getD (P.length - 1) zP = ⟨V [n - 1], L [n - 1]⟩ := by rw [hlen, hP]; exact pcsOf_at V L (by omega)
  have := litP_old P c hne (by rw [hq]; exact hv) k
  simp only [prV, prL, List.headD, upd, List.cons.injEq, and_true, this, hlen]
  by_cases e : k = n - 1
  · subst e
    rw [if_pos rfl, if_pos rfl, hP, pcsOf_at V L (by omega)]
    exact ⟨hv.symm, rfl⟩
  · rw [if_neg e, if_neg e, hP, pcsOf_at V L hk]
    exact ⟨rfl, rfl⟩

variable (L : Ix → List UInt8) (M : Nat) (Q : List Pc) (V : Ix → List UInt8) (c : UInt8) (n : Nat)
abbrev we5 := IntKind.i64.wrap ((n : Int) - 1)
abbrev we1 := ((0 + (we5 n).toNat).blt M, true)
abbrev we2 := (decide (0 ≤ IntKind.i64.wrap ((n : Int) - 1) ∧ IntKind.i64.wrap ((n : Int) - 1) < (n : Int)), true)
abbrev we3 := RunsTo Tryd.prog 141 [.code (bodyOf Tryd.f141)] (envOf [vL 61 2 n, vU (c.toNat : Int)] Tryd.f141.ntmps) (Sx.look ([] ++ (prR 61 M V L))) 80 (vL 141 2 (Q).length) (Sx.look (prE 141 Q)) 200
abbrev we4 := ((0 = 0 ∧ Q.length = n + (1 : Nat)) ∧ Q.length = n + (1 : Nat) ∧ (∀ (i : Nat), i < Q.length → prV Q [i] = appF n (0 : Nat) V (fun js => []) [i]) ∧ ∀ (i : Nat), i < Q.length → prL Q [i] = appF n (0 : Nat) L (fun js => bytesOf (fun is => (↑c.toNat : Int)) [] (0 : Nat) (1 : Nat)) [i])
abbrev we6 := (decide (((2 : Nat) * (n + (1 : Nat)) + (192 : Nat)) * (32 : Nat) ≤ (281474976710656 : Nat)), true)
set_option maxHeartbeats 4000000 in
theorem li0 (n M : Nat) (V L : Ix → List UInt8) (c : UInt8) (Q : List Pc) (hM : M = n) (hn : n ≤ 1000) (hL : ∀ i, i < n → (L [i]).length ≤ 1000) (hQ : Q = (litP (pcsOf n V L) c)) (h : n = 0)  :
    (we3 L M Q V c n) := by
  have hw1 : IntKind.i64.wrap ((n : Int) - 1) = (n : Int) - 1 := wr64 (by omega)
  have hb0 := u8nat c
  have hb1 : bytesOf (fun is => (c.toNat : Int)) [] 0 1 = [c] := by simp [bytesOf]
  have hpl := pcsOf_len n V L
  have hn1 : ((n : Int) - 1).toNat = n - 1 := by omega
  have E' := (⟨hw1, hn1⟩ : _ ∧ _)
  refine rEn baseO 300 (99) 900 80 (hI 5 381) ([((141 : Nat), Rn.to (82 : Nat))]) [(decide (IntKind.i64.wrap ((n : Int) - 1) < 0), true), ((0 + n).ble M, true), (we6 n)] (we4 L Q V c n) (oc3 ?_ ?_ ?_ okn) ?_
  all_goals try dsimp only [we6, we4]
  all_goals exact sc14

set_option maxHeartbeats 4000000 in
theorem li1 (n M : Nat) (V L : Ix → List UInt8) (c : UInt8) (Q : List Pc) (hM : M = n) (hn : n ≤ 1000) (hL : ∀ i, i < n → (L [i]).length ≤ 1000) (hQ : Q = (litP (pcsOf n V L) c)) (h : 0 < n) (h2 : V [n - 1] ≠ [])  :
    (we3 L M Q V c n) := by
  have hw1 : IntKind.i64.wrap ((n : Int) - 1) = (n : Int) - 1 := wr64 (by omega)
  have hb0 := u8nat c
  have hb1 : bytesOf (fun is => (c.toNat : Int)) [] 0 1 = [c] := by simp [bytesOf]
  have hpl := pcsOf_len n V L
  have hn1 : ((n : Int) - 1).toNat = n - 1 := by omega
  have E' := (⟨hw1, hn1⟩ : _ ∧ _)
  refine rEn baseO 300 (99) 900 80 (hI 9 97620) ([((141 : Nat), Rn.to (82 : Nat))]) [(decide (IntKind.i64.wrap ((n : Int) - 1) < 0), false), (we2 n), (we1 M n), (we1 M n), (!V [0 + (we5 n).toNat] == [], true), ((0 + n).ble M, true), (we6 n)] (we4 L Q V c n) (oc7 ?_ ?_ ?_ ?_ ?_ ?_ ?_ okn) ?_
  all_goals try dsimp only [we2, we1, we5, we6, we4]
  all_goals exact sc15

set_option maxHeartbeats 4000000 in
theorem li2 (n M : Nat) (V L : Ix → List UInt8) (c : UInt8) (Q : List Pc) (hM : M = n) (hn : n ≤ 1000) (hL : ∀ i, i < n → (L [i]).length ≤ 1000) (hQ : Q = (litP (pcsOf n V L) c)) (h : 0 < n) (h2 : V [n - 1] = [])  :
    (we3 L M Q V c n) := by
  have hw1 : IntKind.i64.wrap ((n : Int) - 1) = (n : Int) - 1 := wr64 (by omega)
  have hb0 := u8nat c
  have hb1 : bytesOf (fun is => (c.toNat : Int)) [] 0 1 = [c] := by simp [bytesOf]
  have hpl := pcsOf_len n V L
  have hn1 : ((n : Int) - 1).toNat = n - 1 := by omega
  have hL1 := hL (n - 1) (by omega)
  have E' := (⟨hw1, hn1, hb1⟩ : _ ∧ _ ∧ _)
  refine rEn baseO 300 (99) 900 80 (hI 13 22500436) ([((141 : Nat), Rn.to (61 : Nat))]) [(decide (IntKind.i64.wrap ((n : Int) - 1) < 0), false), (we2 n), (we1 M n), (we1 M n), (!V [0 + (we5 n).toNat] == [], false), (we2 n), (we1 M n), (we1 M n), (decide ((L [0 + (we5 n).toNat]).length + (bytesOf (fun is => (↑c.toNat : Int)) [] (0 : Nat) (1 : Nat)).length ≤ (9223372036854775807 : Nat)), true), (we2 n), (we1 M n), (we1 M n)] ((0 = 0 ∧ Q.length = n) ∧ Q.length = M ∧ (∀ (i : Nat), i < Q.length → prV Q [i] = V [i]) ∧ ∀ (i : Nat), i < Q.length → prL Q [i] = upd L [0 + (we5 n).toNat] (L [0 + (we5 n).toNat] ++ bytesOf (fun is => (↑c.toNat : Int)) [] (0 : Nat) (1 : Nat)) [i]) (oc3 ?_ ?_ ?_ (oc9 ?_ ?_ ?_ ?_ ?_ ?_ ?_ ?_ ?_ okn)) ?_
  all_goals try dsimp only [we2, we1, we5]
  all_goals exact sc16

theorem liT (n M : Nat) (V L : Ix → List UInt8) (c : UInt8) (Q : List Pc) (hM : M = n) (hn : n ≤ 1000) (hL : ∀ i, i < n → (L [i]).length ≤ 1000) (hQ : Q = (litP (pcsOf n V L) c)) : RunsTo Tryd.prog 141 [.code (bodyOf Tryd.f141)] (envOf [vL 61 2 n, vU (c.toNat : Int)] Tryd.f141.ntmps) (Sx.look ([] ++ (prR 61 M V L))) 80 (vL 141 2 (Q).length) (Sx.look (prE 141 Q)) 200 := by
  by_cases h : n = 0
  · exact li0 n M V L c Q hM hn hL hQ h
  by_cases h2 : V [n - 1] = []
  · exact li2 n M V L c Q hM hn hL hQ (by omega) h2
  · exact li1 n M V L c Q hM hn hL hQ (by omega) h2
def liP : PC := { args := [.v (.vl 61 2 0), .v (.vi .u8 1)], heap := [⟨61, true, 2, .ta 4 (.tc (.vs 2) (.tc (.vs 3) .t0))⟩], gs := [], G := 23, tp := 213, n := 80, n' := 200, cond := fun e => decide (0 ≤ eI e 1 [] ∧ eI e 1 [] < 256) && (decide (eN e 4 = eN e 0) && (decide (eN e 0 ≤ 1000) && (List.range (eN e 0)).all fun i => decide ((eS e 3 [i]).length ≤ 1000))), v := fun e => vL 141 2 ((litP (pcsOf (eN e 0) (eS e 2) (eS e 3)) (u8o (eI e 1 [])))).length, post := fun e => prE 141 (litP (pcsOf (eN e 0) (eS e 2) (eS e 3)) (u8o (eI e 1 []))) }
theorem liP_pc : PC.Runs Tryd.prog 141 Tryd.f141 (bodyOf Tryd.f141) liP := ⟨Tryd.func141, by kernel_rfl, (fun g hg => by first | (cases hg; done) | (revert g; show ∀ g ∈ ([] : List Nat), g < 23; decide)), fun e H hc => by
  have hc : (decide (0 ≤ eI e 1 [] ∧ eI e 1 [] < 256) && (decide (eN e 4 = eN e 0) && (decide (eN e 0 ≤ 1000) && (List.range (eN e 0)).all fun i => decide ((eS e 3 [i]).length ≤ 1000)))) = true := hc
  try simp only [Bool.and_eq_true, decide_eq_true_eq, Nat.beq_eq] at hc
  exact by obtain ⟨h1, h2, h3, h4⟩ := hc; have hj : (((u8o (eI e 1 [])).toNat : Nat) : Int) = eI e 1 [] := u8of h1; have q := liT (eN e 0) (eN e 4) (eS e 2) (eS e 3) (u8o (eI e 1 [])) _ h2 h3 (fun i hi => of_decide_eq_true (List.all_eq_true.1 h4 i (List.mem_range.2 hi))) rfl; rw [hj] at q; exact q⟩
end Go.Proofs.YtaleenklamognaaDoor

