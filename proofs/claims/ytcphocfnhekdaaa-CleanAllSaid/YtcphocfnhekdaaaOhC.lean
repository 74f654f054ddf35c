/- Cleaning: data, the chapter's example, and the law CleanAll. -/
import Derived.Test.YtcphocfnhekdaaaOgC
set_option linter.unusedSimpArgs false
set_option linter.unusedVariables false
set_option maxRecDepth 100000
namespace Go.Proofs.Ytcphocfnhekdaaa
open Go.Sx

open CleanR
def daF (N Q : Nat) (B U : Ix → Int) (raw : Bool) : List UInt8 := dataT (alF N Q B U raw) (alF N Q B U raw).length
theorem feed_code (m : CleanR.M) (c : UInt8) (h : m.code < 256) : (feed m c).1.code < 256 ∧ ∀ t, (feed m c).2 = some t → t.code < 256 := by
  have hc := c.toNat_lt
  unfold feed
  (repeat' split) <;> (refine ⟨?_, ?_⟩ <;> first | (intro t ht; simp at ht; done) | (intro t ht; simp at ht; subst ht; simp only; first | omega | exact h) | (simp only [M0]; omega) | exact h | omega)
theorem clean_code (mk rw : Nat → Bool) : ∀ (s : List UInt8) (m : CleanR.M) (df bh : Bool) (i : Nat), m.code < 256 → ∀ x ∈ cleanM mk rw m df bh i s, x.1.code < 256
  | [], _, _, _, _, _, x, hx => by simp [cleanM] at hx
  | c :: r, m, df, bh, i, h, x, hx => by
    obtain ⟨f1, f2⟩ := feed_code m c h
    simp only [cleanM] at hx
    cases hf : feed m c with
    | mk m' o =>
      rw [hf] at hx f1 f2
      cases o with
      | none => exact clean_code mk rw r m' _ _ _ f1 x hx
      | some t =>
        have ht := f2 t rfl
        simp only at hx
        split at hx
        · rcases List.mem_cons.1 hx with e | hx
          · subst e; exact ht
          · exact clean_code mk rw r m' _ _ _ f1 x hx
        · split at hx
          · rcases List.mem_cons.1 hx with e | hx
            · subst e; exact ht
            · exact clean_code mk rw r m' _ _ _ f1 x hx
          · split at hx
            · exact clean_code mk rw r m' _ _ _ f1 x hx
            · rcases List.mem_append.1 hx with hx | hx
              · split at hx
                · simp at hx; subst hx; exact ht
                · simp at hx
              · exact clean_code mk rw r m' _ _ _ f1 x hx
theorem clean_len (mk rw : Nat → Bool) : ∀ (s : List UInt8) (m : CleanR.M) (df bh : Bool) (i : Nat), (cleanM mk rw m df bh i s).length ≤ s.length
  | [], _, _, _, _ => by simp [cleanM]
  | c :: r, m, df, bh, i => by
    have := fun m df bh => clean_len mk rw r m df bh (i + 1)
    simp only [cleanM]
    (repeat' split) <;> simp only [List.length_cons, List.length_append, List.length_nil] <;> first | (have := this ‹_› (df || mk i) bh; omega) | skip
    all_goals first | (refine Nat.succ_le_succ ?_; apply clean_len) | (refine Nat.le_trans (clean_len mk rw r _ _ _ _) ?_; omega) | (have h := clean_len mk rw r ‹_› false (!rw i && (‹Tok› : Tok).code == 13) (i + 1); omega)
theorem fB_body (T : List Tok) (i : Nat) (hi : i < T.length) : bytesOf (fB T) [tM T [i]] 0 (tL T [i]) = tS T [i] := by
  have e : T.length - 1 - (T.length - 1 - i) = i := by omega
  have h : ∀ j, fB T [tM T [i], j] = (((T.getD i z0).body.getD j 0).toNat : Int) := fun j => by
    simp only [fB, tM, List.headD_cons, List.tail_cons, e]
  show bytesOf (fB T) [tM T [i]] 0 (T.getD i z0).body.length = (T.getD i z0).body
  apply List.ext_getElem?
  intro j
  by_cases hj : j < (T.getD i z0).body.length
  · have e1 := bytesOf_get (B := fB T) (is := [tM T [i]]) (st := 0) (n := (T.getD i z0).body.length) hj
    rw [List.getElem?_eq_getElem (by rw [bytesOf_len]; exact hj), List.getElem?_eq_getElem hj]
    rw [List.getD_eq_getElem?_getD, List.getElem?_eq_getElem (by rw [bytesOf_len]; exact hj)] at e1
    simp only [Option.getD_some] at e1
    rw [e1]
    have := h j
    simp only [List.cons_append, List.nil_append, Nat.zero_add]
    rw [this, Int.toNat_natCast, UInt8.ofNat_toNat, List.getD_eq_getElem?_getD (l := (T.getD i z0).body), List.getElem?_eq_getElem hj, Option.getD_some]
  · rw [List.getElem?_eq_none (by rw [bytesOf_len]; omega), List.getElem?_eq_none (by omega)]
theorem feed_body (m : CleanR.M) (c : UInt8) : (feed m c).1.body.length ≤ m.body.length + 1 ∧ ∀ t, (feed m c).2 = some t → t.body.length ≤ m.body.length := by
  unfold feed
  (repeat' split) <;> (refine ⟨?_, ?_⟩ <;> first | (intro t ht; simp at ht; done) | (intro t ht; simp at ht; subst ht; simp; done) | (simp [M0]; done) | (simp; done) | (simp; omega))
theorem clean_body (mk rw : Nat → Bool) : ∀ (s : List UInt8) (m : CleanR.M) (df bh : Bool) (i K : Nat), m.body.length + s.length ≤ K → ∀ x ∈ cleanM mk rw m df bh i s, x.1.body.length ≤ K
  | [], _, _, _, _, _, _, x, hx => by simp [cleanM] at hx
  | c :: r, m, df, bh, i, K, h, x, hx => by
    obtain ⟨f1, f2⟩ := feed_body m c
    simp only [List.length_cons] at h
    simp only [cleanM] at hx
    cases hf : feed m c with
    | mk m' o =>
      rw [hf] at hx f1 f2
      simp only at f1
      cases o with
      | none => exact clean_body mk rw r m' _ _ _ K (by omega) x hx
      | some t =>
        have ht := f2 t rfl
        simp only at hx
        split at hx
        · rcases List.mem_cons.1 hx with e | hx
          · subst e; exact Nat.le_trans ht (by omega)
          · exact clean_body mk rw r m' _ _ _ K (by omega) x hx
        · split at hx
          · rcases List.mem_cons.1 hx with e | hx
            · subst e; exact Nat.le_trans ht (by omega)
            · exact clean_body mk rw r m' _ _ _ K (by omega) x hx
          · split at hx
            · exact clean_body mk rw r m' _ _ _ K (by omega) x hx
            · rcases List.mem_append.1 hx with hx | hx
              · split at hx
                · simp at hx; subst hx; exact Nat.le_trans ht (by omega)
                · simp at hx
              · exact clean_body mk rw r m' _ _ _ K (by omega) x hx
theorem getD_body {L : List (Tok × Nat)} {K : Nat} (h : ∀ x ∈ L, x.1.body.length ≤ K) (i : Nat) : ((L.map Prod.fst).getD i z0).body.length ≤ K := by
  rw [List.getD_eq_getElem?_getD, List.getElem?_map]
  by_cases hi : i < L.length
  · rw [List.getElem?_eq_getElem hi]; exact h _ (List.getElem_mem hi)
  · rw [List.getElem?_eq_none (by omega)]; simp [z0]
theorem dataT_len (T : List Tok) : ∀ n, (dataT T n).length ≤ n
  | 0 => by simp [dataT]
  | n + 1 => by
    have := dataT_len T n
    simp only [dataT]; split <;> simp <;> omega
theorem getD_code {L : List (Tok × Nat)} (h : ∀ x ∈ L, x.1.code < 256) (i : Nat) : ((L.map Prod.fst).getD i z0).code < 256 := by
  rw [List.getD_eq_getElem?_getD, List.getElem?_map]
  by_cases hi : i < L.length
  · rw [List.getElem?_eq_getElem hi]; exact h _ (List.getElem_mem hi)
  · rw [List.getElem?_eq_none (by omega)]; simp [z0]
theorem daI (N M Q : Nat) (B U : Ix → Int) (raw : Bool) (hN : N ≤ 200) (hQ : Q ≤ 100) (hM : N ≤ M) (hB : bndB B N = true) : RunsTo Try.prog 13 [.code (bodyOf Try.f13)] (envOf [vL 60 1 N, vL 61 1 Q, vB raw] Try.f13.ntmps) (Sx.look ((rB 60 M B ++ rI 61 Q U) ++ ([]))) 80 (vL 141 1 (daF N Q B U raw).length) (Sx.look (bW 141 (daF N Q B U raw))) 480 := by
  have hc := clean_code (fun j => hasM U Q (j : Nat)) (fun _ => raw) (bytesOf B [] 0 N) M0 false false 0 (by simp [M0])
  have hl := clean_len (fun j => hasM U Q (j : Nat)) (fun _ => raw) (bytesOf B [] 0 N) M0 false false 0
  rw [bytesOf_len] at hl
  show RunsTo Try.prog 13 [.code (bodyOf Try.f13)] (envOf [vL 60 1 N, vL 61 1 Q, vB raw] Try.f13.ntmps) (Sx.look ((rB 60 M B ++ rI 61 Q U) ++ ([]))) 80 (vL 141 1 (dataT (alF N Q B U raw) ((alF N Q B U raw)).length).length) (Sx.look (bW 141 (dataT (alF N Q B U raw) ((alF N Q B U raw)).length))) 480
  refine daStart N M Q B U raw hN hQ hM hB _ _ ?_
  obtain ⟨L, hL⟩ : ∃ L, cleanM (fun j => hasM U Q (j : Nat)) (fun _ => raw) M0 false false 0 (bytesOf B [] 0 N) = L := ⟨_, rfl⟩
  rw [hL] at hc hl
  have hA : alF N Q B U raw = L.map Prod.fst := by rw [← hL]; rfl
  rw [hA]
  suffices q : ∀ (k i : Nat), i + k = (L.map Prod.fst).length → RunsTo Try.prog 13 (headOf Try.f13 0) (envAt Try.f13.ntmps ([(7, vL 104 1 (dataT (L.map Prod.fst) i).length), (13, vL 102 5 (L.map Prod.fst).length), (14, vN (L.map Prod.fst).length), (15, vN (i : Nat))])) (Sx.look ((rB 60 M B ++ rI 61 Q U) ++ (toE 102 103 (L.map Prod.fst) ++ bW 104 (dataT (L.map Prod.fst) i)))) 80 (vL 141 1 (dataT (L.map Prod.fst) (L.map Prod.fst).length).length) (Sx.look (bW 141 (dataT (L.map Prod.fst) (L.map Prod.fst).length))) 480 from q (L.map Prod.fst).length 0 (by omega)
  intro k
  have hTl : (L.map Prod.fst).length ≤ 1000 := by rw [List.length_map]; omega
  induction k with
  | zero => intro i hi; rw [show i = (L.map Prod.fst).length by omega]; exact daEnd N M Q B U raw _ _ _ rfl
  | succ k ih =>
    intro i hi
    have q := ih (i + 1) (by omega)
    have ol := dataT_len (L.map Prod.fst) i
    by_cases h : ((L.map Prod.fst).getD i z0).kind = 1
    · simp only [dataT, if_pos h] at q; exact daY N M Q B U raw _ _ i (by omega) hTl (by omega) h (getD_code hc i) _ _ q
    · simp only [dataT, if_neg h] at q; exact daN N M Q B U raw _ _ i (by omega) hTl (by omega) h _ _ q
def daP : PC := { args := [.v (.vl 60 1 0), .v (.vl 61 1 2), .v (.vb 4)], heap := [⟨60, false, 1, .ta 9 (.vi .u8 1)⟩, ⟨61, false, 1, .ta 2 (.vi .i64 3)⟩], gs := [], G := 0, tp := 999, n := 80, n' := 480, cond := fun e => (decide (eN e 0 ≤ 200) && decide (eN e 2 ≤ 100)) && (decide (eN e 0 ≤ eN e 9) && bndB (eI e 1) (eN e 0)), v := fun e => vL 141 1 (daF (eN e 0) (eN e 2) (eI e 1) (eI e 3) (eB e 4 [])).length, post := fun e => bW 141 (daF (eN e 0) (eN e 2) (eI e 1) (eI e 3) (eB e 4 [])) }
theorem daP_pc : PC.Runs Try.prog 13 Try.f13 (bodyOf Try.f13) daP := ⟨Try.func13, by kernel_rfl, (fun g hg => by first | (cases hg; done) | (revert g; show ∀ g ∈ ([] : List Nat), g < 0; decide)), fun e H hc => by
  have hc : ((decide (eN e 0 ≤ 200) && decide (eN e 2 ≤ 100)) && (decide (eN e 0 ≤ eN e 9) && bndB (eI e 1) (eN e 0))) = true := hc
  try simp only [Bool.and_eq_true, decide_eq_true_eq, Nat.beq_eq] at hc
  exact daI (eN e 0) (eN e 9) (eN e 2) (eI e 1) (eI e 3) (eB e 4 []) hc.1.1 hc.1.2 hc.2.1 hc.2.2⟩
def sumsV : List (FuncId × Summ) := [(13, daP.summ 0)]
theorem baseV : Base0 Try.prog sumsV := (baseO.cons Try.func13 (by kernel_rfl) (PC.summ_ok daP_pc gtopG))
theorem avI_p0 (zz : Nat) :
    isEnd (evTill Try.prog sumsV 600 (99) 900 6 [.code (bodyOf Try.f6)] (envOf [] Try.f6.ntmps) ([] ++ ([])) ⟨[.t, .t, .t], 80⟩) (endP ([]) (YES) ([]) 520) =
    (OkL [] ∧ true = true ∧ True) := by kernel_rfl

set_option maxHeartbeats 4000000 in
theorem avI (zz : Nat)  :
    RunsTo Try.prog 6 [.code (bodyOf Try.f6)] (envOf [] Try.f6.ntmps) (Sx.look ([] ++ ([]))) 80 (YES) (Sx.look ([])) 520 := by
  refine runs_last baseV (Sx.Ends.of (avI_p0 zz) ⟨?oo, ?rr⟩) (by kernel_rfl) rfl (gtL (by decide)) (by decide)
  case oo =>
    refine okn
    all_goals first | omega | (with_reducible rfl) | kernel_rfl | (simp only [SS]; done) | decide
  case rr =>
    refine ⟨?_, ?_⟩ <;> first | exact True.intro | kernel_rfl | rfl

def avP : PC := { args := [], heap := [], gs := [], G := 0, tp := 999, n := 80, n' := 520, cond := fun e => true, v := fun e => YES, post := fun e => [] }
theorem avP_pc : PC.Runs Try.prog 6 Try.f6 (bodyOf Try.f6) avP := ⟨Try.func6, by kernel_rfl, (fun g hg => by first | (cases hg; done) | (revert g; show ∀ g ∈ ([] : List Nat), g < 0; decide)), fun e H hc => by
  have hc : (true) = true := hc
  try simp only [Bool.and_eq_true, decide_eq_true_eq, Nat.beq_eq] at hc
  exact avI 0⟩
end Go.Proofs.Ytcphocfnhekdaaa
