/- Buffer: what 'long' asks. -/
import Derived.Test.YtdmkdmaofgjelaaDoorRows
import Derived.Test.YtdmkdmaofgjelaaDoorSxX
set_option linter.unusedSimpArgs false
set_option linter.unusedVariables false
set_option maxRecDepth 100000
namespace Go.Proofs.YtdmkdmaofgjelaaDoor
open Go.Sx

def actT (N : Nat) (K M : Ix → Int) (mf bl : Ix → Nat) : Tr := .ta N (.tc (.vi .i64 K) (.tc (.vi .i64 M) (.tc (.vl 101 mf 1 [] bl) .t0)))
def actE (N : Nat) (K M : Ix → Int) (mf bl : Ix → Nat) : List Ent := [⟨100, false, none, 3, actT N K M mf bl⟩]
def actV (N : Nat) : SV := .v (.vl 100 (fun _ => 0) 3 [] (fun _ => N))
def lgE (N i : Nat) : List (Nat × SV) := [(8, actV N), (9, .v (.vi .i64 fun _ => N)), (10, .v (.vi .i64 fun _ => i))]

theorem lg_start (N : Nat) (K M : Ix → Int) (mf bl : Ix → Nat) :
    isMore (evTill Tryd.prog [] 100 (behind Tryd.f16 0) 100 16 [.code (bodyOf Tryd.f16)] (envOf [actV N] 19) (actE N K M mf bl ++ []) ⟨[.s false], 110⟩) (moreP (headOf Tryd.f16 0) [] 19 (lgE N 0) [] 120) =
    (OkL [(decide ((↑N : Int) > (40 : Int)), false)] ∧
  headOf Tryd.f16 (0 : Nat) = headOf Tryd.f16 (0 : Nat) ∧
    (((0 : Nat) = (0 : Nat) ∧ N = N) ∧ (↑N : Int) = (↑N : Int) ∧ (↑(0 : Nat) : Int) = (0 : Int)) ∧ True) := by kernel_rfl

theorem lg_many (N : Nat) (K M : Ix → Int) (mf bl : Ix → Nat) :
    isEnd (evTill Tryd.prog [] 100 (behind Tryd.f16 0) 100 16 [.code (bodyOf Tryd.f16)] (envOf [actV N] 19) (actE N K M mf bl ++ []) ⟨[.s true], 110⟩) (endP [] (.v (.vb fun _ => true)) [] 120) =
    (OkL [(decide ((↑N : Int) > (40 : Int)), true)] ∧ true = true ∧ True) := by kernel_rfl

theorem lg_done (N i : Nat) (K M : Ix → Int) (mf bl : Ix → Nat) :
    isEnd (evTill Tryd.prog [] 100 (behind Tryd.f16 0) 100 16 (headOf Tryd.f16 0) (envAt 19 (lgE N i)) (actE N K M mf bl ++ []) ⟨[.s false], 110⟩) (endP [] (.v (.vb fun _ => false)) [] 120) =
    (OkL [(decide ((↑i : Int) < (↑N : Int)), false)] ∧ false = false ∧ True) := by kernel_rfl

theorem lg_hit (N i : Nat) (K M : Ix → Int) (mf bl : Ix → Nat) :
    isEnd (evTill Tryd.prog [] 100 (behind Tryd.f16 0) 100 16 (headOf Tryd.f16 0) (envAt 19 (lgE N i)) (actE N K M mf bl ++ []) ⟨[.s true, .s true, .s true, .s true, .s true], 110⟩) (endP [] (.v (.vb fun _ => true)) [] 120) =
    (OkL
    [(decide ((↑i : Int) < (↑N : Int)), true), (decide ((0 : Int) ≤ (↑i : Int) ∧ (↑i : Int) < (↑N : Int)), true),
      (((0 : Nat) + (↑i : Int).toNat).blt N, true), (((0 : Nat) + (↑i : Int).toNat).blt N, true),
      (decide ((↑(bl [(0 : Nat) + (↑i : Int).toNat]) : Int) > (100 : Int)), true)] ∧
  true = true ∧ True) := by kernel_rfl

theorem lg_next (N i : Nat) (K M : Ix → Int) (mf bl : Ix → Nat) :
    isMore (evTill Tryd.prog [] 100 (behind Tryd.f16 0) 100 16 (headOf Tryd.f16 0) (envAt 19 (lgE N i)) (actE N K M mf bl ++ []) ⟨[.s true, .s true, .s true, .s true, .s false], 110⟩) (moreP (headOf Tryd.f16 0) [] 19 (lgE N (i + 1)) [] 120) =
    (OkL
    [(decide ((↑i : Int) < (↑N : Int)), true), (decide ((0 : Int) ≤ (↑i : Int) ∧ (↑i : Int) < (↑N : Int)), true),
      (((0 : Nat) + (↑i : Int).toNat).blt N, true), (((0 : Nat) + (↑i : Int).toNat).blt N, true),
      (decide ((↑(bl [(0 : Nat) + (↑i : Int).toNat]) : Int) > (100 : Int)), false)] ∧
  headOf Tryd.f16 (0 : Nat) = headOf Tryd.f16 (0 : Nat) ∧
    (((0 : Nat) = (0 : Nat) ∧ N = N) ∧
        (↑N : Int) = (↑N : Int) ∧ (↑(i + (1 : Nat)) : Int) = IntKind.i64.wrap ((↑i : Int) + (1 : Int))) ∧
      True) := by kernel_rfl


theorem goodP : PGood Tryd.prog := good_of (by kernel_rfl) (by kernel_rfl)
theorem gtopP : gtop Tryd.prog ≤ 100 := of_decide_eq_true (by kernel_rfl)
theorem gtopQ {n : Nat} (h : 100 ≤ n) : gtop Tryd.prog ≤ n := Nat.le_trans gtopP h
theorem okn : OkL [] := fun p hp => by cases hp
theorem okc {c b : Bool} {d : Conds} (h : c = b) (hd : OkL d) : OkL ((c, b) :: d) := fun p hp => by
  rcases List.mem_cons.1 hp with rfl | hp
  · exact h
  · exact hd p hp
theorem wr64 {x : Int} (h : -9223372036854775808 ≤ x ∧ x < 9223372036854775808) : IntKind.i64.wrap x = x := by
  simp only [IntKind.wrap, IntKind.bits, IntKind.signed]
  simp
  omega
theorem yes {p : Prop} [Decidable p] (h : p) : decide p = true := decide_eq_true h
theorem no {p : Prop} [Decidable p] (h : ¬ p) : decide p = false := decide_eq_false h
theorem blt {a b : Nat} (h : a < b) : Nat.blt a b = true := by simpa [Nat.blt_eq] using h

def lgR (bl : Ix → Nat) : Nat → Nat → Bool
  | 0, _ => false
  | k + 1, i => decide (100 < bl [i]) || lgR bl k (i + 1)

theorem lg_loop (N : Nat) (K M : Ix → Int) (mf bl : Ix → Nat) (hN : N ≤ 40) : ∀ k i, N = i + k →
    RunsTo Tryd.prog 16 (headOf Tryd.f16 0) (envAt 19 (lgE N i)) (Sx.look (actE N K M mf bl ++ [])) 110 (.v (.vb fun _ => lgR bl k i)) (Sx.look []) 120
  | 0, i, h => runs_last (Base0.nil goodP) (Ends.of (lg_done N i K M mf bl) ⟨okc (no (by omega)) okn, rfl, trivial⟩) (by kernel_rfl) rfl (gtopQ (by decide)) (by decide)
  | k + 1, i, h => by
    have hi : (0 : Nat) + (i : Int).toNat = i := by simp
    have h1 : (i : Int) < (N : Int) := by omega
    by_cases hb : 100 < bl [i]
    · have hv : lgR bl (k + 1) i = true := by simp [lgR, hb]
      rw [hv]
      refine runs_last (Base0.nil goodP) (Ends.of (lg_hit N i K M mf bl) ⟨okc (yes h1) (okc (yes ⟨by omega, h1⟩) (okc (blt (by rw [hi]; omega)) (okc (blt (by rw [hi]; omega)) (okc (yes ?_) okn)))), rfl, trivial⟩) (by kernel_rfl) rfl (gtopQ (by decide)) (by decide)
      rw [hi]
      show ((bl [i] : Nat) : Int) > 100
      omega
    · have hv : lgR bl (k + 1) i = lgR bl k (i + 1) := by simp [lgR, hb]
      rw [hv]
      refine runs_more (Base0.nil goodP) (More.of (lg_next N i K M mf bl) ⟨okc (yes h1) (okc (yes ⟨by omega, h1⟩) (okc (blt (by rw [hi]; omega)) (okc (blt (by rw [hi]; omega)) (okc (no ?_) okn)))), rfl, ⟨⟨rfl, rfl⟩, rfl, ?_⟩, trivial⟩) (by kernel_rfl) (by kernel_rfl) rfl (gtopQ (by decide)) (by decide) (lg_loop N K M mf bl hN k (i + 1) (by omega))
      · rw [hi]
        show ¬ ((bl [i] : Nat) : Int) > 100
        omega
      · rw [wr64 (by omega)]; rfl

def longB (N : Nat) (bl : Ix → Nat) : Bool := if N > 40 then true else lgR bl N 0

theorem long_runs (N : Nat) (K M : Ix → Int) (mf bl : Ix → Nat) : RunsTo Tryd.prog 16 [.code (bodyOf Tryd.f16)] (envOf [actV N] 19) (Sx.look (actE N K M mf bl ++ [])) 110 (.v (.vb fun _ => longB N bl)) (Sx.look []) 120 := by
  by_cases h : N > 40
  · have hv : longB N bl = true := by simp [longB, h]
    rw [hv]
    exact runs_last (Base0.nil goodP) (Ends.of (lg_many N K M mf bl) ⟨okc (yes (by omega)) okn, rfl, trivial⟩) (by kernel_rfl) rfl (gtopQ (by decide)) (by decide)
  · have hv : longB N bl = lgR bl N 0 := by simp [longB, h]
    rw [hv]
    exact runs_more (Base0.nil goodP) (More.of (lg_start N K M mf bl) ⟨okc (no (by omega)) okn, rfl, ⟨⟨rfl, rfl⟩, rfl, rfl⟩, trivial⟩) (by kernel_rfl) (by kernel_rfl) rfl (gtopQ (by decide)) (by decide) (lg_loop N K M mf bl (by omega) N 0 (by omega))


def rowAct : Tr → Option (Nat × (Ix → Int) × (Ix → Int) × Nat × (Ix → Nat) × (Ix → Nat))
  | .ta N (.tc (.vi .i64 K) (.tc (.vi .i64 M) (.tc (.vl fam mf 1 [] bl) .t0))) => some (N, K, M, fam, mf, bl)
  | _ => none
theorem rowAct_ok {t : Tr} {N : Nat} {K M : Ix → Int} {fam : Nat} {mf bl : Ix → Nat} (h : rowAct t = some (N, K, M, fam, mf, bl)) : t = .ta N (.tc (.vi .i64 K) (.tc (.vi .i64 M) (.tc (.vl fam mf 1 [] bl) .t0))) := by
  unfold rowAct at h
  split at h
  · simp only [Option.some.injEq, Prod.mk.injEq] at h
    obtain ⟨rfl, rfl, rfl, rfl, rfl, rfl⟩ := h
    rfl
  · cases h

def longS : Summ := fun args H =>
  match args with
  | [.v (.vl lab mem sz cuts len)] => do
    let e ← opt (Sx.look H lab)
    let r ← opt (rowAct e.t)
    chk (!e.own)
    chk (noFam e.fam)
    chk (Nat.beq e.wid 3)
    chk (Nat.beq sz 3)
    chk cuts.isEmpty
    chk (Nat.beq (mem []) 0)
    need (Nat.beq (len []) r.1)
    bump 10
    pure ⟨.v (.vb fun _ => longB r.1 r.2.2.2.2.2), [], [], [lab]⟩
  | _ => M.fail

theorem longS_ok : ∀ args H x e d y, longS args H x = .ok e d y → OkL d → (∀ a ∈ args, ∀ l ∈ a.labs, l < x.nl) → WFh (Sx.look H) x.nl → gtop Tryd.prog ≤ x.nl → CallOK Tryd.prog 16 args H x.nl e y.nl := by
  intro args H x e d y h hd h3 h4 h5
  unfold longS at h
  split at h
  · rename_i lab mem sz cuts len
    obtain ⟨en, hl, h⟩ := opt_bind h
    obtain ⟨⟨N, K, M, fam, mf, bl⟩, ht, h⟩ := opt_bind h
    have ht := rowAct_ok ht
    obtain ⟨e1, h⟩ := chk_bind h
    obtain ⟨e2, h⟩ := chk_bind h
    obtain ⟨e3, h⟩ := chk_bind h
    obtain ⟨e4, h⟩ := chk_bind h
    obtain ⟨e5, h⟩ := chk_bind h
    obtain ⟨e6, h⟩ := chk_bind h
    obtain ⟨e7, x7, d7, n7, hd, h⟩ := need_bind h hd
    obtain ⟨x8, n8, h⟩ := bump_bind h
    obtain ⟨rfl, rfl, rfl⟩ := pure_ok h
    have e7 := Nat.eq_of_beq_eq_true e7
    have e6 := Nat.eq_of_beq_eq_true e6
    have e5 : cuts = [] := List.isEmpty_iff.1 e5
    have e4 := Nat.eq_of_beq_eq_true e4
    have e3 := Nat.eq_of_beq_eq_true e3
    have e2 := noFam_ok e2
    have e1 : en.own = false := by simpa using e1
    subst e5; subst e4
    rw [n8, n7]
    have hlook := look_part1 hl
    refine useC_ok (σ := [(100, .to lab), (101, .to fam)]) Tryd.func16 (body := bodyOf Tryd.f16) (by kernel_rfl) (cargs := [actV N]) (C := actE N K M mf bl ++ []) (C' := []) (n := 110) (n' := 120) (long_runs N K M mf bl) (by kernel_rfl) rfl ?_ ?_ (by kernel_rfl) rfl rfl rfl
    · refine ⟨?_, trivial⟩
      simp [fitS, actV, fitT, fitL, sgOf, onB_true, cutsP_nil, allB, e6, e7]
    · simp [fitH, sepH, sepFrom, fitEs, actE, fitEnt, sgOf, srcsOf, srcL, hlook, e1, e3, sameB, fitTo, e2, ht, fitT, actT, sameK, allB, fitL, onB_true, cutsP_nil]
  · exact (fail_ok h).elim

end Go.Proofs.YtdmkdmaofgjelaaDoor
