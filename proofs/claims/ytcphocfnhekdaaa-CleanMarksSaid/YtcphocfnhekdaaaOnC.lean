/- Cleaning: the law CleanMarks. -/
import Derived.Test.YtcphocfnhekdaaaOmC
set_option linter.unusedSimpArgs false
set_option linter.unusedVariables false
set_option maxRecDepth 100000
namespace Go.Proofs.Ytcphocfnhekdaaa
open Go.Sx

open CleanR
def otF (K : Ix → Int) : Nat → Nat
  | 0 => 0
  | n + 1 => if K [n] = 1 then otF K n else otF K n + 1
def oneU (p : Nat) : Ix → Int := fun _ => (p : Int)
def twoU (p q : Nat) : Ix → Int := upd (upd (fun _ => 0) [0] (p : Int)) [1] (q : Int)
theorem otStart_p0 (N R : Nat) (K C O : Ix → Int) (m n : Ix → Nat) (CU : Ix → Bool) (ls : Nat → Nat) (F : Ix → Int) :
    isMore (evTill Try.prog [] 300 (behind Try.f19 0) 900 19 [.code (bodyOf Try.f19)] (envOf [vL 61 5 N] Try.f19.ntmps) ((pR 61 62 N K C O m n CU ++ pF 62 R ls F) ++ ([])) ⟨[], 80⟩) (moreP (headOf Try.f19 0) ([]) Try.f19.ntmps ([(3, vN (0 : Nat)), (6, vL 61 5 N), (7, vN N), (8, vN (0 : Nat))]) ([]) 160) =
    (OkL [] ∧ headOf Try.f19 (0 : Nat) = headOf Try.f19 (0 : Nat) ∧ ((↑(0 : Nat) : Int) = (0 : Int) ∧ ((0 : Nat) = (0 : Nat) ∧ N = N) ∧ (↑N : Int) = (↑N : Int) ∧ (↑(0 : Nat) : Int) = (0 : Int)) ∧ True) := by kernel_rfl

set_option maxHeartbeats 4000000 in
theorem otStart (N R : Nat) (K C O : Ix → Int) (m n : Ix → Nat) (CU : Ix → Bool) (ls : Nat → Nat) (F : Ix → Int)  (v : SV) (L' : HF) (next : RunsTo Try.prog 19 (headOf Try.f19 0) (envAt Try.f19.ntmps ([(3, vN (0 : Nat)), (6, vL 61 5 N), (7, vN N), (8, vN (0 : Nat))])) (Sx.look ((pR 61 62 N K C O m n CU ++ pF 62 R ls F) ++ ([]))) 80 (v) (L') 160) :
    RunsTo Try.prog 19 [.code (bodyOf Try.f19)] (envOf [vL 61 5 N] Try.f19.ntmps) (Sx.look ((pR 61 62 N K C O m n CU ++ pF 62 R ls F) ++ ([]))) 80 (v) (L') 160 := by
  refine runs_more baseO (More.of (otStart_p0 N R K C O m n CU ls F) ⟨?oo, rfl, ?rr⟩) (by kernel_rfl) (by kernel_rfl) rfl (gtL (by decide)) (by decide) next
  case oo =>
    clear next
    refine okn
    all_goals ((try simp (disch := omega) only [SS]); first | done | omega | assumption | (simp (disch := omega) only [SS] at *; first | done | omega | assumption) | (simp_all; done))
  case rr =>
    clear next
    try simp (disch := omega) only [SS]
    repeat' apply And.intro
    all_goals first | exact True.intro | with_reducible rfl | omega | (intros; first | exact True.intro | with_reducible rfl | omega | (simp_all; done)) | (simp_all; done) | rfl

theorem otY_p0 (N R : Nat) (K C O : Ix → Int) (m n : Ix → Nat) (CU : Ix → Bool) (ls : Nat → Nat) (F : Ix → Int) (i x : Nat) :
    isMore (evTill Try.prog [] 300 (behind Try.f19 0) 900 19 (headOf Try.f19 0) (envAt Try.f19.ntmps ([(3, vN (x : Nat)), (6, vL 61 5 N), (7, vN N), (8, vN (i : Nat))])) ((pR 61 62 N K C O m n CU ++ pF 62 R ls F) ++ ([])) ⟨[.s true, .s true, .s true, .s true, .s true], 120⟩) (moreP (headOf Try.f19 0) ([]) Try.f19.ntmps ([(3, vN (x + 1 : Nat)), (6, vL 61 5 N), (7, vN N), (8, vN (i + 1 : Nat))]) ([]) 160) =
    (OkL [(decide ((↑i : Int) < (↑N : Int)), true), (decide ((0 : Int) ≤ (↑i : Int) ∧ (↑i : Int) < (↑N : Int)), true), (((0 : Nat) + (↑i : Int).toNat).blt N, true), (((0 : Nat) + (↑i : Int).toNat).blt N, true), (K [(0 : Nat) + (↑i : Int).toNat] != (1 : Int), true)] ∧ headOf Try.f19 (0 : Nat) = headOf Try.f19 (0 : Nat) ∧ ((↑(x + (1 : Nat)) : Int) = IntKind.i64.wrap ((↑x : Int) + (1 : Int)) ∧ ((0 : Nat) = (0 : Nat) ∧ N = N) ∧ (↑N : Int) = (↑N : Int) ∧ (↑(i + (1 : Nat)) : Int) = IntKind.i64.wrap ((↑i : Int) + (1 : Int))) ∧ True) := by kernel_rfl

set_option maxHeartbeats 4000000 in
theorem otY (N R : Nat) (K C O : Ix → Int) (m n : Ix → Nat) (CU : Ix → Bool) (ls : Nat → Nat) (F : Ix → Int) (i x : Nat) (hi : i < N) (hN : N ≤ 1000) (hx : x ≤ i) (h : K [i] ≠ 1)  (v : SV) (L' : HF) (next : RunsTo Try.prog 19 (headOf Try.f19 0) (envAt Try.f19.ntmps ([(3, vN (x + 1 : Nat)), (6, vL 61 5 N), (7, vN N), (8, vN (i + 1 : Nat))])) (Sx.look ((pR 61 62 N K C O m n CU ++ pF 62 R ls F) ++ ([]))) 80 (v) (L') 160) :
    RunsTo Try.prog 19 (headOf Try.f19 0) (envAt Try.f19.ntmps ([(3, vN (x : Nat)), (6, vL 61 5 N), (7, vN N), (8, vN (i : Nat))])) (Sx.look ((pR 61 62 N K C O m n CU ++ pF 62 R ls F) ++ ([]))) 80 (v) (L') 160 := by
  have hw : IntKind.i64.wrap ((i : Int) + 1) = ((i + 1 : Nat) : Int) := by rw [wr64 (by omega)]; rfl
  have hwx : IntKind.i64.wrap ((x : Int) + 1) = ((x + 1 : Nat) : Int) := by rw [wr64 (by omega)]; rfl
  refine runs_more baseO (More.of (otY_p0 N R K C O m n CU ls F i x) ⟨?oo, rfl, ?rr⟩) (by kernel_rfl) (by kernel_rfl) rfl (gtL (by decide)) (by decide) next
  case oo =>
    clear next
    refine (okc ?_ (okc ?_ (okc ?_ (okc ?_ (okc ?_ okn)))))
    all_goals ((try simp (disch := omega) only [SS, hw, hwx, Go.Sx.sum, Nat.zero_add]); first | done | omega | assumption | (simp (disch := omega) only [SS, hw, hwx, Go.Sx.sum, Nat.zero_add] at *; first | done | omega | assumption) | (simp_all; done))
  case rr =>
    clear next
    try simp (disch := omega) only [SS, hw, hwx, Go.Sx.sum, Nat.zero_add]
    repeat' apply And.intro
    all_goals first | exact True.intro | with_reducible rfl | omega | (intros; first | exact True.intro | with_reducible rfl | omega | (simp_all; done)) | (simp_all; done) | rfl

theorem otN_p0 (N R : Nat) (K C O : Ix → Int) (m n : Ix → Nat) (CU : Ix → Bool) (ls : Nat → Nat) (F : Ix → Int) (i x : Nat) :
    isMore (evTill Try.prog [] 300 (behind Try.f19 0) 900 19 (headOf Try.f19 0) (envAt Try.f19.ntmps ([(3, vN (x : Nat)), (6, vL 61 5 N), (7, vN N), (8, vN (i : Nat))])) ((pR 61 62 N K C O m n CU ++ pF 62 R ls F) ++ ([])) ⟨[.s true, .s true, .s true, .s true, .s false], 120⟩) (moreP (headOf Try.f19 0) ([]) Try.f19.ntmps ([(3, vN (x : Nat)), (6, vL 61 5 N), (7, vN N), (8, vN (i + 1 : Nat))]) ([]) 160) =
    (OkL [(decide ((↑i : Int) < (↑N : Int)), true), (decide ((0 : Int) ≤ (↑i : Int) ∧ (↑i : Int) < (↑N : Int)), true), (((0 : Nat) + (↑i : Int).toNat).blt N, true), (((0 : Nat) + (↑i : Int).toNat).blt N, true), (K [(0 : Nat) + (↑i : Int).toNat] != (1 : Int), false)] ∧ headOf Try.f19 (0 : Nat) = headOf Try.f19 (0 : Nat) ∧ ((↑x : Int) = (↑x : Int) ∧ ((0 : Nat) = (0 : Nat) ∧ N = N) ∧ (↑N : Int) = (↑N : Int) ∧ (↑(i + (1 : Nat)) : Int) = IntKind.i64.wrap ((↑i : Int) + (1 : Int))) ∧ True) := by kernel_rfl

set_option maxHeartbeats 4000000 in
theorem otN (N R : Nat) (K C O : Ix → Int) (m n : Ix → Nat) (CU : Ix → Bool) (ls : Nat → Nat) (F : Ix → Int) (i x : Nat) (hi : i < N) (hN : N ≤ 1000) (hx : x ≤ i) (h : K [i] = 1)  (v : SV) (L' : HF) (next : RunsTo Try.prog 19 (headOf Try.f19 0) (envAt Try.f19.ntmps ([(3, vN (x : Nat)), (6, vL 61 5 N), (7, vN N), (8, vN (i + 1 : Nat))])) (Sx.look ((pR 61 62 N K C O m n CU ++ pF 62 R ls F) ++ ([]))) 80 (v) (L') 160) :
    RunsTo Try.prog 19 (headOf Try.f19 0) (envAt Try.f19.ntmps ([(3, vN (x : Nat)), (6, vL 61 5 N), (7, vN N), (8, vN (i : Nat))])) (Sx.look ((pR 61 62 N K C O m n CU ++ pF 62 R ls F) ++ ([]))) 80 (v) (L') 160 := by
  have hw : IntKind.i64.wrap ((i : Int) + 1) = ((i + 1 : Nat) : Int) := by rw [wr64 (by omega)]; rfl
  refine runs_more baseO (More.of (otN_p0 N R K C O m n CU ls F i x) ⟨?oo, rfl, ?rr⟩) (by kernel_rfl) (by kernel_rfl) rfl (gtL (by decide)) (by decide) next
  case oo =>
    clear next
    refine (okc ?_ (okc ?_ (okc ?_ (okc ?_ (okc ?_ okn)))))
    all_goals ((try simp (disch := omega) only [SS, hw, Go.Sx.sum, Nat.zero_add, h]); first | done | omega | assumption | (simp (disch := omega) only [SS, hw, Go.Sx.sum, Nat.zero_add, h] at *; first | done | omega | assumption) | (simp_all; done))
  case rr =>
    clear next
    try simp (disch := omega) only [SS, hw, Go.Sx.sum, Nat.zero_add, h]
    repeat' apply And.intro
    all_goals first | exact True.intro | with_reducible rfl | omega | (intros; first | exact True.intro | with_reducible rfl | omega | (simp_all; done)) | (simp_all; done) | rfl

theorem otEnd_p0 (N R : Nat) (K C O : Ix → Int) (m n : Ix → Nat) (CU : Ix → Bool) (ls : Nat → Nat) (F : Ix → Int) (i x : Nat) :
    isEnd (evTill Try.prog [] 300 (99) 900 19 (headOf Try.f19 0) (envAt Try.f19.ntmps ([(3, vN (x : Nat)), (6, vL 61 5 N), (7, vN N), (8, vN (i : Nat))])) ((pR 61 62 N K C O m n CU ++ pF 62 R ls F) ++ ([])) ⟨[.s false], 120⟩) (endP ([]) (vN (x : Nat)) ([]) 160) =
    (OkL [(decide ((↑i : Int) < (↑N : Int)), false)] ∧ (↑x : Int) = (↑x : Int) ∧ True) := by kernel_rfl

set_option maxHeartbeats 4000000 in
theorem otEnd (N R : Nat) (K C O : Ix → Int) (m n : Ix → Nat) (CU : Ix → Bool) (ls : Nat → Nat) (F : Ix → Int) (i x : Nat) (hi : i = N)  :
    RunsTo Try.prog 19 (headOf Try.f19 0) (envAt Try.f19.ntmps ([(3, vN (x : Nat)), (6, vL 61 5 N), (7, vN N), (8, vN (i : Nat))])) (Sx.look ((pR 61 62 N K C O m n CU ++ pF 62 R ls F) ++ ([]))) 80 (vN (x : Nat)) (Sx.look ([])) 160 := by
  refine runs_last baseO (Sx.Ends.of (otEnd_p0 N R K C O m n CU ls F i x) ⟨?oo, ?rr⟩) (by kernel_rfl) rfl (gtL (by decide)) (by decide)
  case oo =>
    refine (okc ?_ okn)
    all_goals ((try simp (disch := omega) only [SS]); first | done | omega | assumption | (simp (disch := omega) only [SS] at *; first | done | omega | assumption) | (simp_all; done))
  case rr =>
    try simp (disch := omega) only [SS]
    repeat' apply And.intro
    all_goals first | exact True.intro | with_reducible rfl | omega | (intros; first | exact True.intro | with_reducible rfl | omega | (simp_all; done)) | (simp_all; done) | rfl

theorem otF_le (K : Ix → Int) : ∀ n, otF K n ≤ n
  | 0 => Nat.le_refl _
  | n + 1 => by
    have := otF_le K n
    simp only [otF]; split <;> omega
theorem otI (N R : Nat) (K C O : Ix → Int) (m n : Ix → Nat) (CU : Ix → Bool) (ls : Nat → Nat) (F : Ix → Int) (hN : N ≤ 1000) : RunsTo Try.prog 19 [.code (bodyOf Try.f19)] (envOf [vL 61 5 N] Try.f19.ntmps) (Sx.look ((pR 61 62 N K C O m n CU ++ pF 62 R ls F) ++ ([]))) 80 (vN (otF K N : Nat)) (Sx.look []) 160 := by
  refine otStart N R K C O m n CU ls F _ _ ?_
  suffices q : ∀ (k i : Nat), i + k = N → RunsTo Try.prog 19 (headOf Try.f19 0) (envAt Try.f19.ntmps ([(3, vN (otF K i : Nat)), (6, vL 61 5 N), (7, vN N), (8, vN (i : Nat))])) (Sx.look ((pR 61 62 N K C O m n CU ++ pF 62 R ls F) ++ ([]))) 80 (vN (otF K N : Nat)) (Sx.look []) 160 from q N 0 (by omega)
  intro k
  induction k with
  | zero => intro i hi; rw [show i = N by omega]; exact otEnd N R K C O m n CU ls F N _ rfl
  | succ k ih =>
    intro i hi
    have q := ih (i + 1) (by omega)
    have hx := otF_le K i
    by_cases h : K [i] = 1
    · simp only [otF, if_pos h] at q; exact otN N R K C O m n CU ls F i _ (by omega) hN hx h _ _ q
    · simp only [otF, if_neg h] at q; exact otY N R K C O m n CU ls F i _ (by omega) hN hx h _ _ q
def otP : PC := { args := [.v (.vl 61 5 0)], heap := [⟨61, false, 5, .ta 0 (.tc (.vi .i64 1) (.tc (.vi .i64 2) (.tc (.vi .i64 3) (.tc (.vf 62 1 4 5) (.tc (.vb 6) .t0)))))⟩], fams := [⟨62, false, 1, 9, 7, .vi .u8 8⟩], gs := [], G := 0, tp := 999, n := 80, n' := 160, cond := fun e => decide (eN e 0 ≤ 1000), v := fun e => vN (otF (eI e 1) (eN e 0) : Nat), post := fun e => [] }
theorem otP_pc : PC.Runs Try.prog 19 Try.f19 (bodyOf Try.f19) otP := ⟨Try.func19, by kernel_rfl, (fun g hg => by first | (cases hg; done) | (revert g; show ∀ g ∈ ([] : List Nat), g < 0; decide)), fun e H hc => by
  have hc : (decide (eN e 0 ≤ 1000)) = true := hc
  try simp only [Bool.and_eq_true, decide_eq_true_eq, Nat.beq_eq] at hc
  exact otI (eN e 0) (eN e 9) (eI e 1) (eI e 2) (eI e 3) (eM e 4) (eM e 5) (eB e 6) (eL e 7) (eI e 8) hc⟩
def sumsM : List (FuncId × Summ) := [(6, avP.summ 0), (12, alP.summ 0), (19, otP.summ 0)]
theorem baseM : Base0 Try.prog sumsM := (((baseO.cons Try.func19 (by kernel_rfl) (PC.summ_ok otP_pc gtopG)).cons Try.func12 (by kernel_rfl) (PC.summ_ok alP_pc gtopG)).cons Try.func6 (by kernel_rfl) (PC.summ_ok avP_pc gtopG))
theorem cmLong_p0 (N : Nat) (B : Ix → Int) (f g : Int) :
    isEnd (evTill Try.prog sumsM 800 (99) 900 4 [.code (bodyOf Try.f4)] (envOf [vL 100 1 N, vN f, vN g] Try.f4.ntmps) (rB 100 N B ++ ([])) ⟨[.t, .f, .s false, .s true], 110⟩) (endP ([]) (YES) ([]) 60000) =
    (OkL [(decide ((↑N : Int) > (200 : Int)), false), ((↑N : Int) == (0 : Int), true)] ∧ true = true ∧ True) := by kernel_rfl
theorem cmLong_p1 (N : Nat) (B : Ix → Int) (f g : Int) :
    isEnd (evTill Try.prog sumsM 800 (99) 900 4 [.code (bodyOf Try.f4)] (envOf [vL 100 1 N, vN f, vN g] Try.f4.ntmps) (rB 100 N B ++ ([])) ⟨[.t, .f, .s true], 110⟩) (endP ([]) (YES) ([]) 60000) =
    (OkL [(decide ((↑N : Int) > (200 : Int)), true)] ∧ true = true ∧ True) := by kernel_rfl

set_option maxHeartbeats 4000000 in
theorem cmLong (N : Nat) (B : Ix → Int) (f g : Int) (h : N = 0 ∨ 200 < N)  :
    RunsTo Try.prog 4 [.code (bodyOf Try.f4)] (envOf [vL 100 1 N, vN f, vN g] Try.f4.ntmps) (Sx.look (rB 100 N B ++ ([]))) 110 (YES) (Sx.look ([])) 60000 := by
  refine bcase (c := (decide ((↑N : Int) > (200 : Int)))) (fun gg0 => ?_) (fun gg0 => ?_)
  · refine runs_last baseM (Sx.Ends.of (cmLong_p0 N B f g) ⟨?oo, ?rr⟩) (by kernel_rfl) rfl (gtL (by decide)) (by decide)
    case oo =>
      refine (okc gg0 (okc ?_ okn))
      all_goals ((try simp (disch := omega) only [SS]); first | done | omega | assumption | (simp (disch := omega) only [SS] at *; first | done | omega | assumption) | (simp_all; done))
    case rr =>
      try simp (disch := omega) only [SS]
      repeat' apply And.intro
      all_goals first | exact True.intro | with_reducible rfl | omega | (intros; first | exact True.intro | with_reducible rfl | omega | (simp_all; done)) | (simp_all; done) | rfl
  · refine runs_last baseM (Sx.Ends.of (cmLong_p1 N B f g) ⟨?oo, ?rr⟩) (by kernel_rfl) rfl (gtL (by decide)) (by decide)
    case oo =>
      refine (okc gg0 okn)
      all_goals ((try simp (disch := omega) only [SS]); first | done | omega | assumption | (simp (disch := omega) only [SS] at *; first | done | omega | assumption) | (simp_all; done))
    case rr =>
      try simp (disch := omega) only [SS]
      repeat' apply And.intro
      all_goals first | exact True.intro | with_reducible rfl | omega | (intros; first | exact True.intro | with_reducible rfl | omega | (simp_all; done)) | (simp_all; done) | rfl

theorem cmStart_p0 (N : Nat) (B : Ix → Int) (f g : Int) (p q : Nat) :
    isMore (evTill Try.prog sumsM 800 (behind Try.f4 0) 900 4 [.code (bodyOf Try.f4)] (envOf [vL 100 1 N, vN f, vN g] Try.f4.ntmps) (rB 100 N B ++ ([])) ⟨[.t, .f, .s false, .s false, .s true, .s true, .s true, .s true], 110⟩) (moreP (headOf Try.f4 0) ([((121 : Nat), Rn.to (550 : Nat)), ((124 : Nat), Rn.nil (1 : Nat))]) Try.f4.ntmps ([(0, vL 100 1 N), (7, vN (p : Nat)), (8, vN (q : Nat)), (9, vP 121), (10, vB false), (46, vL 100 1 q), (47, vN (q : Nat)), (48, vN (0 : Nat))]) (clE 121 124 0 0 0 ([] : List UInt8) false false) 60000) =
    (OkL [(decide ((↑N : Int) > (200 : Int)), false), ((↑N : Int) == (0 : Int), false), (!IntKind.u64.wrap (↑N : Int) == (0 : Int), true), (!IntKind.u64.wrap (↑N : Int) == (0 : Int), true), (((0 : Nat) + N).ble N, true), (decide ((0 : Int) ≤ IntKind.i64.wrap ((IntKind.u64.wrap g).tmod (IntKind.u64.wrap (↑N : Int))) ∧ IntKind.i64.wrap ((IntKind.u64.wrap g).tmod (IntKind.u64.wrap (↑N : Int))) + (↑(0 : Nat) : Int) ≤ (↑N : Int)), true)] ∧ headOf Try.f4 (0 : Nat) = headOf Try.f4 (0 : Nat) ∧ (((0 : Nat) = (0 : Nat) ∧ N = N) ∧ (↑p : Int) = IntKind.i64.wrap ((IntKind.u64.wrap f).tmod (IntKind.u64.wrap (↑N : Int))) ∧ (↑q : Int) = IntKind.i64.wrap ((IntKind.u64.wrap g).tmod (IntKind.u64.wrap (↑N : Int))) ∧ (0 : Nat) = (0 : Nat) ∧ false = false ∧ ((0 : Nat) = (0 : Nat) ∧ q = (IntKind.i64.wrap ((IntKind.u64.wrap g).tmod (IntKind.u64.wrap (↑N : Int)))).toNat) ∧ (↑q : Int) = (↑(IntKind.i64.wrap ((IntKind.u64.wrap g).tmod (IntKind.u64.wrap (↑N : Int)))).toNat : Int) ∧ (↑(0 : Nat) : Int) = (0 : Int)) ∧ (((↑(0 : Nat) : Int) = (0 : Int) ∧ (0 : Int) = (0 : Int) ∧ (↑(0 : Nat) : Int) = (0 : Int) ∧ (↑(0 : Nat) : Int) = (0 : Int) ∧ (0 : Nat) = (0 : Nat) ∧ false = false) ∧ false = false ∧ false = false) ∧ (0 : Nat) = (0 : Nat)) := by kernel_rfl

set_option maxHeartbeats 4000000 in
theorem cmStart (N : Nat) (B : Ix → Int) (f g : Int) (p q : Nat) (hN : 0 < N ∧ N ≤ 200) (hp : IntKind.i64.wrap ((IntKind.u64.wrap f).tmod (IntKind.u64.wrap (N : Int))) = (p : Int)) (hq : IntKind.i64.wrap ((IntKind.u64.wrap g).tmod (IntKind.u64.wrap (N : Int))) = (q : Int)) (hq2 : q ≤ N)  (next : RunsTo Try.prog 4 (headOf Try.f4 0) (envAt Try.f4.ntmps ([(0, vL 100 1 N), (7, vN (p : Nat)), (8, vN (q : Nat)), (9, vP 121), (10, vB false), (46, vL 100 1 q), (47, vN (q : Nat)), (48, vN (0 : Nat))])) (Sx.look (rB 100 N B ++ (clE 121 124 0 0 0 ([] : List UInt8) false false))) 110 (YES) (Sx.look []) 60000) :
    RunsTo Try.prog 4 [.code (bodyOf Try.f4)] (envOf [vL 100 1 N, vN f, vN g] Try.f4.ntmps) (Sx.look (rB 100 N B ++ ([]))) 110 (YES) (Sx.look []) 60000 := by
  have hu : IntKind.u64.wrap (N : Int) = (N : Int) := by simp only [IntKind.wrap, IntKind.bits, IntKind.signed]; simp; omega
  refine runs_more baseM (More.of (cmStart_p0 N B f g p q) ⟨?oo, rfl, ?rr⟩) (by kernel_rfl) (by kernel_rfl) rfl (gtL (by decide)) (by decide) next
  case oo =>
    clear next
    refine (okc ?_ (okc ?_ (okc ?_ (okc ?_ (okc ?_ (okc ?_ okn))))))
    all_goals first | omega | (simp (disch := omega) only [SS, hp, hq, Go.Sx.sum, Int.toNat_natCast]; first | done | omega) | (simp_all; done) | (simp_all; omega) | (rw [hu]; simp; omega)
  case rr =>
    clear next
    try simp (disch := omega) only [SS, hp, hq, Int.toNat_natCast, Go.Sx.sum]
    repeat' apply And.intro
    all_goals first | exact True.intro | with_reducible rfl | omega | exact hp | exact hq | (intros; rfl) | (simp_all; done) | (intros; omega)

theorem cmX1_p0 (N : Nat) (B : Ix → Int) (p q cd op : Nat) (st : Nat) (body : List UInt8) (bh df : Bool) (i : Nat) (T1 T2 T3 : List Tok) :
    isMore (evTill Try.prog sumsM 800 (behind Try.f4 1) 900 4 (headOf Try.f4 0) (envAt Try.f4.ntmps ([(0, vL 100 1 N), (7, vN (p : Nat)), (8, vN (q : Nat)), (9, vP 121), (10, vB df), (46, vL 100 1 q), (47, vN (q : Nat)), (48, vN (i : Nat))])) (rB 100 N B ++ (clE 121 124 st cd op body bh df)) ⟨[.s false, .t, .s true, .t, .s true, .s false, .s true, .s false], 140⟩) (moreP (headOf Try.f4 1) ([((131 : Nat), Rn.to (163 : Nat)), ((133 : Nat), Rn.to (504 : Nat)), ((132 : Nat), Rn.to (164 : Nat)), ((134 : Nat), Rn.to (505 : Nat))]) Try.f4.ntmps ([(0, vL 100 1 N), (13, vL 131 5 T1.length), (14, vL 133 5 T2.length), (85, vL 131 5 T1.length), (86, vN T1.length), (87, vN (0 : Nat))]) (toE 131 132 T1 ++ toE 133 134 T2) 60000) =
    (OkL [(decide ((↑i : Int) < (↑q : Int)), false), (decide (N ≤ (200 : Nat)) && decide ((1 : Nat) ≤ (100 : Nat)) && (decide (N ≤ N) && bndB B N), true), (decide (N ≤ (200 : Nat)) && decide ((2 : Nat) ≤ (100 : Nat)) && (decide (N ≤ N) && bndB B N), true), (df, false), ((↑p : Int) == (↑q : Int), true), ((↑(alF N (1 : Nat) B (fun is => (↑p : Int)) false).length : Int) != (↑(alF N (2 : Nat) B (upd (upd (fun is => (0 : Int)) [(0 : Nat)] (↑p : Int)) [(1 : Nat)] (↑q : Int)) false).length : Int), false)] ∧ headOf Try.f4 (1 : Nat) = headOf Try.f4 (1 : Nat) ∧ (((0 : Nat) = (0 : Nat) ∧ N = N) ∧ ((0 : Nat) = (0 : Nat) ∧ T1.length = (alF N (1 : Nat) B (fun is => (↑p : Int)) false).length) ∧ ((0 : Nat) = (0 : Nat) ∧ T2.length = (alF N (2 : Nat) B (upd (upd (fun is => (0 : Int)) [(0 : Nat)] (↑p : Int)) [(1 : Nat)] (↑q : Int)) false).length) ∧ ((0 : Nat) = (0 : Nat) ∧ T1.length = (alF N (1 : Nat) B (fun is => (↑p : Int)) false).length) ∧ (↑T1.length : Int) = (↑(alF N (1 : Nat) B (fun is => (↑p : Int)) false).length : Int) ∧ (↑(0 : Nat) : Int) = (0 : Int)) ∧ (T1.length = (alF N (1 : Nat) B (fun is => (↑p : Int)) false).length ∧ (∀ (i : Nat), i < T1.length → tK T1 [i] = tK (alF N (1 : Nat) B (fun is => (↑p : Int)) false) [i]) ∧ (∀ (i : Nat), i < T1.length → tC T1 [i] = tC (alF N (1 : Nat) B (fun is => (↑p : Int)) false) [i]) ∧ (∀ (i : Nat), i < T1.length → tO T1 [i] = tO (alF N (1 : Nat) B (fun is => (↑p : Int)) false) [i]) ∧ ((∀ (i : Nat), i < T1.length → tM T1 [i] = tM (alF N (1 : Nat) B (fun is => (↑p : Int)) false) [i]) ∧ ∀ (i : Nat), i < T1.length → tL T1 [i] = tL (alF N (1 : Nat) B (fun is => (↑p : Int)) false) [i]) ∧ ∀ (i : Nat), i < T1.length → tU [i] = tU [i]) ∧ (T1.length = (alF N (1 : Nat) B (fun is => (↑p : Int)) false).length ∧ ∀ (m : Nat), m < T1.length → fL T1 m = fL (alF N (1 : Nat) B (fun is => (↑p : Int)) false) m ∧ ∀ (i : Nat), i < fL T1 m → fB T1 [m, i] = fB (alF N (1 : Nat) B (fun is => (↑p : Int)) false) [m, i]) ∧ (T2.length = (alF N (2 : Nat) B (upd (upd (fun is => (0 : Int)) [(0 : Nat)] (↑p : Int)) [(1 : Nat)] (↑q : Int)) false).length ∧ (∀ (i : Nat), i < T2.length → tK T2 [i] = tK (alF N (2 : Nat) B (upd (upd (fun is => (0 : Int)) [(0 : Nat)] (↑p : Int)) [(1 : Nat)] (↑q : Int)) false) [i]) ∧ (∀ (i : Nat), i < T2.length → tC T2 [i] = tC (alF N (2 : Nat) B (upd (upd (fun is => (0 : Int)) [(0 : Nat)] (↑p : Int)) [(1 : Nat)] (↑q : Int)) false) [i]) ∧ (∀ (i : Nat), i < T2.length → tO T2 [i] = tO (alF N (2 : Nat) B (upd (upd (fun is => (0 : Int)) [(0 : Nat)] (↑p : Int)) [(1 : Nat)] (↑q : Int)) false) [i]) ∧ ((∀ (i : Nat), i < T2.length → tM T2 [i] = tM (alF N (2 : Nat) B (upd (upd (fun is => (0 : Int)) [(0 : Nat)] (↑p : Int)) [(1 : Nat)] (↑q : Int)) false) [i]) ∧ ∀ (i : Nat), i < T2.length → tL T2 [i] = tL (alF N (2 : Nat) B (upd (upd (fun is => (0 : Int)) [(0 : Nat)] (↑p : Int)) [(1 : Nat)] (↑q : Int)) false) [i]) ∧ ∀ (i : Nat), i < T2.length → tU [i] = tU [i]) ∧ T2.length = (alF N (2 : Nat) B (upd (upd (fun is => (0 : Int)) [(0 : Nat)] (↑p : Int)) [(1 : Nat)] (↑q : Int)) false).length ∧ ∀ (m : Nat), m < T2.length → fL T2 m = fL (alF N (2 : Nat) B (upd (upd (fun is => (0 : Int)) [(0 : Nat)] (↑p : Int)) [(1 : Nat)] (↑q : Int)) false) m ∧ ∀ (i : Nat), i < fL T2 m → fB T2 [m, i] = fB (alF N (2 : Nat) B (upd (upd (fun is => (0 : Int)) [(0 : Nat)] (↑p : Int)) [(1 : Nat)] (↑q : Int)) false) [m, i]) := by kernel_rfl
theorem cmX1_p1 (N : Nat) (B : Ix → Int) (p q cd op : Nat) (st : Nat) (body : List UInt8) (bh df : Bool) (i : Nat) (T1 T2 T3 : List Tok) :
    isMore (evTill Try.prog sumsM 800 (behind Try.f4 1) 900 4 (headOf Try.f4 0) (envAt Try.f4.ntmps ([(0, vL 100 1 N), (7, vN (p : Nat)), (8, vN (q : Nat)), (9, vP 121), (10, vB df), (46, vL 100 1 q), (47, vN (q : Nat)), (48, vN (i : Nat))])) (rB 100 N B ++ (clE 121 124 st cd op body bh df)) ⟨[.s false, .t, .s true, .t, .s true, .s true, .s false], 140⟩) (moreP (headOf Try.f4 1) ([((131 : Nat), Rn.to (163 : Nat)), ((133 : Nat), Rn.to (504 : Nat)), ((132 : Nat), Rn.to (164 : Nat)), ((134 : Nat), Rn.to (505 : Nat))]) Try.f4.ntmps ([(0, vL 100 1 N), (13, vL 131 5 T1.length), (14, vL 133 5 T2.length), (85, vL 131 5 T1.length), (86, vN T1.length), (87, vN (0 : Nat))]) (toE 131 132 T1 ++ toE 133 134 T2) 60000) =
    (OkL [(decide ((↑i : Int) < (↑q : Int)), false), (decide (N ≤ (200 : Nat)) && decide ((1 : Nat) ≤ (100 : Nat)) && (decide (N ≤ N) && bndB B N), true), (decide (N ≤ (200 : Nat)) && decide ((2 : Nat) ≤ (100 : Nat)) && (decide (N ≤ N) && bndB B N), true), (df, true), ((↑(alF N (1 : Nat) B (fun is => (↑p : Int)) false).length : Int) != (↑(alF N (2 : Nat) B (upd (upd (fun is => (0 : Int)) [(0 : Nat)] (↑p : Int)) [(1 : Nat)] (↑q : Int)) false).length : Int), false)] ∧ headOf Try.f4 (1 : Nat) = headOf Try.f4 (1 : Nat) ∧ (((0 : Nat) = (0 : Nat) ∧ N = N) ∧ ((0 : Nat) = (0 : Nat) ∧ T1.length = (alF N (1 : Nat) B (fun is => (↑p : Int)) false).length) ∧ ((0 : Nat) = (0 : Nat) ∧ T2.length = (alF N (2 : Nat) B (upd (upd (fun is => (0 : Int)) [(0 : Nat)] (↑p : Int)) [(1 : Nat)] (↑q : Int)) false).length) ∧ ((0 : Nat) = (0 : Nat) ∧ T1.length = (alF N (1 : Nat) B (fun is => (↑p : Int)) false).length) ∧ (↑T1.length : Int) = (↑(alF N (1 : Nat) B (fun is => (↑p : Int)) false).length : Int) ∧ (↑(0 : Nat) : Int) = (0 : Int)) ∧ (T1.length = (alF N (1 : Nat) B (fun is => (↑p : Int)) false).length ∧ (∀ (i : Nat), i < T1.length → tK T1 [i] = tK (alF N (1 : Nat) B (fun is => (↑p : Int)) false) [i]) ∧ (∀ (i : Nat), i < T1.length → tC T1 [i] = tC (alF N (1 : Nat) B (fun is => (↑p : Int)) false) [i]) ∧ (∀ (i : Nat), i < T1.length → tO T1 [i] = tO (alF N (1 : Nat) B (fun is => (↑p : Int)) false) [i]) ∧ ((∀ (i : Nat), i < T1.length → tM T1 [i] = tM (alF N (1 : Nat) B (fun is => (↑p : Int)) false) [i]) ∧ ∀ (i : Nat), i < T1.length → tL T1 [i] = tL (alF N (1 : Nat) B (fun is => (↑p : Int)) false) [i]) ∧ ∀ (i : Nat), i < T1.length → tU [i] = tU [i]) ∧ (T1.length = (alF N (1 : Nat) B (fun is => (↑p : Int)) false).length ∧ ∀ (m : Nat), m < T1.length → fL T1 m = fL (alF N (1 : Nat) B (fun is => (↑p : Int)) false) m ∧ ∀ (i : Nat), i < fL T1 m → fB T1 [m, i] = fB (alF N (1 : Nat) B (fun is => (↑p : Int)) false) [m, i]) ∧ (T2.length = (alF N (2 : Nat) B (upd (upd (fun is => (0 : Int)) [(0 : Nat)] (↑p : Int)) [(1 : Nat)] (↑q : Int)) false).length ∧ (∀ (i : Nat), i < T2.length → tK T2 [i] = tK (alF N (2 : Nat) B (upd (upd (fun is => (0 : Int)) [(0 : Nat)] (↑p : Int)) [(1 : Nat)] (↑q : Int)) false) [i]) ∧ (∀ (i : Nat), i < T2.length → tC T2 [i] = tC (alF N (2 : Nat) B (upd (upd (fun is => (0 : Int)) [(0 : Nat)] (↑p : Int)) [(1 : Nat)] (↑q : Int)) false) [i]) ∧ (∀ (i : Nat), i < T2.length → tO T2 [i] = tO (alF N (2 : Nat) B (upd (upd (fun is => (0 : Int)) [(0 : Nat)] (↑p : Int)) [(1 : Nat)] (↑q : Int)) false) [i]) ∧ ((∀ (i : Nat), i < T2.length → tM T2 [i] = tM (alF N (2 : Nat) B (upd (upd (fun is => (0 : Int)) [(0 : Nat)] (↑p : Int)) [(1 : Nat)] (↑q : Int)) false) [i]) ∧ ∀ (i : Nat), i < T2.length → tL T2 [i] = tL (alF N (2 : Nat) B (upd (upd (fun is => (0 : Int)) [(0 : Nat)] (↑p : Int)) [(1 : Nat)] (↑q : Int)) false) [i]) ∧ ∀ (i : Nat), i < T2.length → tU [i] = tU [i]) ∧ T2.length = (alF N (2 : Nat) B (upd (upd (fun is => (0 : Int)) [(0 : Nat)] (↑p : Int)) [(1 : Nat)] (↑q : Int)) false).length ∧ ∀ (m : Nat), m < T2.length → fL T2 m = fL (alF N (2 : Nat) B (upd (upd (fun is => (0 : Int)) [(0 : Nat)] (↑p : Int)) [(1 : Nat)] (↑q : Int)) false) m ∧ ∀ (i : Nat), i < fL T2 m → fB T2 [m, i] = fB (alF N (2 : Nat) B (upd (upd (fun is => (0 : Int)) [(0 : Nat)] (↑p : Int)) [(1 : Nat)] (↑q : Int)) false) [m, i]) := by kernel_rfl

set_option maxHeartbeats 4000000 in
theorem cmX1 (N : Nat) (B : Ix → Int) (p q cd op : Nat) (st : Nat) (body : List UInt8) (bh df : Bool) (i : Nat) (T1 T2 T3 : List Tok) (hi : i = q) (hN : N ≤ 200) (hB : bndB B N = true) (hT1 : alF N 1 B (oneU p) false = T1) (hT2 : alF N 2 B (twoU p q) false = T2) (hl1 : T1.length ≤ 200) (hl2 : T2.length ≤ 200) (hdf : df = true ∨ p = q) (hlen : T1.length = T2.length)  (next : RunsTo Try.prog 4 (headOf Try.f4 1) (envAt Try.f4.ntmps ([(0, vL 100 1 N), (13, vL 131 5 T1.length), (14, vL 133 5 T2.length), (85, vL 131 5 T1.length), (86, vN T1.length), (87, vN (0 : Nat))])) (Sx.look (rB 100 N B ++ (toE 131 132 T1 ++ toE 133 134 T2))) 110 (YES) (Sx.look []) 60000) :
    RunsTo Try.prog 4 (headOf Try.f4 0) (envAt Try.f4.ntmps ([(0, vL 100 1 N), (7, vN (p : Nat)), (8, vN (q : Nat)), (9, vP 121), (10, vB df), (46, vL 100 1 q), (47, vN (q : Nat)), (48, vN (i : Nat))])) (Sx.look (rB 100 N B ++ (clE 121 124 st cd op body bh df))) 110 (YES) (Sx.look []) 60000 := by
  have hT1' : alF N 1 B (fun _ => (p : Int)) false = T1 := hT1
  have hT2' : alF N 2 B (upd (upd (fun _ => 0) [0] (p : Int)) [1] (q : Int)) false = T2 := hT2
  have hpq : ((p : Int) == (q : Int)) = (p == q) := by rw [Bool.eq_iff_iff]; simp; omega
  refine bcase (c := (df)) (fun gg0 => ?_) (fun gg0 => ?_)
  · refine runs_more baseM (More.of (cmX1_p0 N B p q cd op st body bh df i T1 T2 T3) ⟨?oo, rfl, ?rr⟩) (by kernel_rfl) (by kernel_rfl) rfl (gtL (by decide)) (by decide) next
    case oo =>
      clear next
      refine (okc ?_ (okc ?_ (okc ?_ (okc gg0 (okc ?_ (okc ?_ okn))))))
      all_goals first | omega | exact hB | (simp (disch := omega) only [SS, hT1, hT2, hT1', hT2', hB, hpq, hlen]; first | done | omega) | (simp_all; done) | (simp_all; omega)
    case rr =>
      clear next
      try simp (disch := omega) only [SS, hT1, hT2, hT1', hT2', hB, hpq, hlen]
      repeat' apply And.intro
      all_goals first | exact True.intro | with_reducible rfl | omega | (intros; rfl) | (simp_all; done) | (intros; simp_all; done)
  · refine runs_more baseM (More.of (cmX1_p1 N B p q cd op st body bh df i T1 T2 T3) ⟨?oo, rfl, ?rr⟩) (by kernel_rfl) (by kernel_rfl) rfl (gtL (by decide)) (by decide) next
    case oo =>
      clear next
      refine (okc ?_ (okc ?_ (okc ?_ (okc gg0 (okc ?_ okn)))))
      all_goals first | omega | exact hB | (simp (disch := omega) only [SS, hT1, hT2, hT1', hT2', hB, hpq, hlen]; first | done | omega) | (simp_all; done) | (simp_all; omega)
    case rr =>
      clear next
      try simp (disch := omega) only [SS, hT1, hT2, hT1', hT2', hB, hpq, hlen]
      repeat' apply And.intro
      all_goals first | exact True.intro | with_reducible rfl | omega | (intros; rfl) | (simp_all; done) | (intros; simp_all; done)

theorem cmX0_p0 (N : Nat) (B : Ix → Int) (p q cd op : Nat) (st : Nat) (body : List UInt8) (bh df : Bool) (i : Nat) (T1 T2 T3 : List Tok) :
    isEnd (evTill Try.prog sumsM 800 (99) 900 4 (headOf Try.f4 0) (envAt Try.f4.ntmps ([(0, vL 100 1 N), (7, vN (p : Nat)), (8, vN (q : Nat)), (9, vP 121), (10, vB df), (46, vL 100 1 q), (47, vN (q : Nat)), (48, vN (i : Nat))])) (rB 100 N B ++ (clE 121 124 st cd op body bh df)) ⟨[.s false, .t, .s true, .t, .s true, .s false, .s false, .s true, .s true, .s true, .s true, .s true, .s true, .s true, .s true, .s true, .s true], 140⟩) (endP ([]) (YES) ([]) 60000) =
    (OkL [(decide ((↑i : Int) < (↑q : Int)), false), (decide (N ≤ (200 : Nat)) && decide ((1 : Nat) ≤ (100 : Nat)) && (decide (N ≤ N) && bndB B N), true), (decide (N ≤ (200 : Nat)) && decide ((2 : Nat) ≤ (100 : Nat)) && (decide (N ≤ N) && bndB B N), true), (df, false), ((↑p : Int) == (↑q : Int), false), (decide (N ≤ (200 : Nat)) && decide ((0 : Nat) ≤ (100 : Nat)) && (decide (N ≤ N) && bndB B N), true), ((alF N (1 : Nat) B (fun is => (↑p : Int)) false).length.beq (alF N (1 : Nat) B (fun is => (↑p : Int)) false).length, true), (decide ((alF N (1 : Nat) B (fun is => (↑p : Int)) false).length ≤ (1000 : Nat)), true), ((alF N (0 : Nat) B (fun x => (0 : Int)) false).length.beq (alF N (0 : Nat) B (fun x => (0 : Int)) false).length, true), (decide ((alF N (0 : Nat) B (fun x => (0 : Int)) false).length ≤ (1000 : Nat)), true), ((↑(otF (tK (alF N (1 : Nat) B (fun is => (↑p : Int)) false)) (alF N (1 : Nat) B (fun is => (↑p : Int)) false).length) : Int) == (↑(otF (tK (alF N (0 : Nat) B (fun x => (0 : Int)) false)) (alF N (0 : Nat) B (fun x => (0 : Int)) false).length) : Int), true), ((alF N (2 : Nat) B (upd (upd (fun is => (0 : Int)) [(0 : Nat)] (↑p : Int)) [(1 : Nat)] (↑q : Int)) false).length.beq (alF N (2 : Nat) B (upd (upd (fun is => (0 : Int)) [(0 : Nat)] (↑p : Int)) [(1 : Nat)] (↑q : Int)) false).length, true), (decide ((alF N (2 : Nat) B (upd (upd (fun is => (0 : Int)) [(0 : Nat)] (↑p : Int)) [(1 : Nat)] (↑q : Int)) false).length ≤ (1000 : Nat)), true), ((alF N (0 : Nat) B (fun x => (0 : Int)) false).length.beq (alF N (0 : Nat) B (fun x => (0 : Int)) false).length, true), (decide ((alF N (0 : Nat) B (fun x => (0 : Int)) false).length ≤ (1000 : Nat)), true)] ∧ true = ((↑(otF (tK (alF N (2 : Nat) B (upd (upd (fun is => (0 : Int)) [(0 : Nat)] (↑p : Int)) [(1 : Nat)] (↑q : Int)) false)) (alF N (2 : Nat) B (upd (upd (fun is => (0 : Int)) [(0 : Nat)] (↑p : Int)) [(1 : Nat)] (↑q : Int)) false).length) : Int) == (↑(otF (tK (alF N (0 : Nat) B (fun x => (0 : Int)) false)) (alF N (0 : Nat) B (fun x => (0 : Int)) false).length) : Int)) ∧ True) := by kernel_rfl

set_option maxHeartbeats 4000000 in
theorem cmX0 (N : Nat) (B : Ix → Int) (p q cd op : Nat) (st : Nat) (body : List UInt8) (bh df : Bool) (i : Nat) (T1 T2 T3 : List Tok) (hi : i = q) (hN : N ≤ 200) (hB : bndB B N = true) (hT1 : alF N 1 B (oneU p) false = T1) (hT2 : alF N 2 B (twoU p q) false = T2) (hl1 : T1.length ≤ 200) (hl2 : T2.length ≤ 200) (hdf : df = false ∧ p ≠ q) (hT3 : alF N 0 B (fun _ => 0) false = T3) (hl3 : T3.length ≤ 200) (ho1 : otF (tK T1) T1.length = otF (tK T3) T3.length) (ho2 : otF (tK T2) T2.length = otF (tK T3) T3.length)  :
    RunsTo Try.prog 4 (headOf Try.f4 0) (envAt Try.f4.ntmps ([(0, vL 100 1 N), (7, vN (p : Nat)), (8, vN (q : Nat)), (9, vP 121), (10, vB df), (46, vL 100 1 q), (47, vN (q : Nat)), (48, vN (i : Nat))])) (Sx.look (rB 100 N B ++ (clE 121 124 st cd op body bh df))) 110 (YES) (Sx.look ([])) 60000 := by
  have hT1' : alF N 1 B (fun _ => (p : Int)) false = T1 := hT1
  have hT2' : alF N 2 B (upd (upd (fun _ => 0) [0] (p : Int)) [1] (q : Int)) false = T2 := hT2
  have hpq : ((p : Int) == (q : Int)) = (p == q) := by rw [Bool.eq_iff_iff]; simp; omega
  refine runs_last baseM (Sx.Ends.of (cmX0_p0 N B p q cd op st body bh df i T1 T2 T3) ⟨?oo, ?rr⟩) (by kernel_rfl) rfl (gtL (by decide)) (by decide)
  case oo =>
    refine (okc ?_ (okc ?_ (okc ?_ (okc ?_ (okc ?_ (okc ?_ (okc ?_ (okc ?_ (okc ?_ (okc ?_ (okc ?_ (okc ?_ (okc ?_ (okc ?_ (okc ?_ okn)))))))))))))))
    all_goals first | omega | exact hB | (simp (disch := omega) only [SS, hT1, hT2, hT1', hT2', hB, hpq, hT3, ho1, ho2]; first | done | omega) | (simp_all; done) | (simp_all; omega)
  case rr =>
    try simp (disch := omega) only [SS, hT1, hT2, hT1', hT2', hB, hpq, hT3, ho1, ho2]
    repeat' apply And.intro
    all_goals first | exact True.intro | rfl | (simp_all; done)

theorem cmR_p0 (N : Nat) (B : Ix → Int) (T1 T2 T3 : List Tok) (k : Nat) :
    isMore (evTill Try.prog sumsM 800 (behind Try.f4 1) 900 4 (headOf Try.f4 1) (envAt Try.f4.ntmps ([(0, vL 100 1 N), (13, vL 131 5 T1.length), (14, vL 133 5 T2.length), (85, vL 131 5 T1.length), (86, vN T1.length), (87, vN (k : Nat))])) (rB 100 N B ++ (toE 131 132 T1 ++ toE 133 134 T2)) ⟨[.s true, .s true, .s true, .s true, .s true, .s true, .s true, .s true, .s true, .s true, .s true, .s false], 140⟩) (moreP (headOf Try.f4 1) ([]) Try.f4.ntmps ([(0, vL 100 1 N), (13, vL 131 5 T1.length), (14, vL 133 5 T2.length), (85, vL 131 5 T1.length), (86, vN T1.length), (87, vN (k + 1 : Nat))]) (toE 131 132 T1 ++ toE 133 134 T2) 60000) =
    (OkL [(decide ((↑k : Int) < (↑T1.length : Int)), true), (decide ((0 : Int) ≤ (↑k : Int) ∧ (↑k : Int) < (↑T1.length : Int)), true), (((0 : Nat) + (↑k : Int).toNat).blt T1.length, true), (((0 : Nat) + (↑k : Int).toNat).blt T1.length, true), ((tM T1 [(0 : Nat) + (↑k : Int).toNat]).blt T1.length, true), (((0 : Nat) + tL T1 [(0 : Nat) + (↑k : Int).toNat]).ble (fL T1 (tM T1 [(0 : Nat) + (↑k : Int).toNat])), true), (decide ((0 : Int) ≤ (↑k : Int) ∧ (↑k : Int) < (↑T2.length : Int)), true), (((0 : Nat) + (↑k : Int).toNat).blt T2.length, true), (((0 : Nat) + (↑k : Int).toNat).blt T2.length, true), ((tM T2 [(0 : Nat) + (↑k : Int).toNat]).blt T2.length, true), (((0 : Nat) + tL T2 [(0 : Nat) + (↑k : Int).toNat]).ble (fL T2 (tM T2 [(0 : Nat) + (↑k : Int).toNat])), true), (!(tK T1 [(0 : Nat) + (↑k : Int).toNat] == tK T2 [(0 : Nat) + (↑k : Int).toNat] && (tC T1 [(0 : Nat) + (↑k : Int).toNat] == tC T2 [(0 : Nat) + (↑k : Int).toNat] && (tO T1 [(0 : Nat) + (↑k : Int).toNat] == tO T2 [(0 : Nat) + (↑k : Int).toNat] && (bytesOf (fB T1) [tM T1 [(0 : Nat) + (↑k : Int).toNat]] (0 : Nat) (tL T1 [(0 : Nat) + (↑k : Int).toNat]) == bytesOf (fB T2) [tM T2 [(0 : Nat) + (↑k : Int).toNat]] (0 : Nat) (tL T2 [(0 : Nat) + (↑k : Int).toNat]) && (tU [(0 : Nat) + (↑k : Int).toNat] == tU [(0 : Nat) + (↑k : Int).toNat] && true))))), false)] ∧ headOf Try.f4 (1 : Nat) = headOf Try.f4 (1 : Nat) ∧ (((0 : Nat) = (0 : Nat) ∧ N = N) ∧ ((0 : Nat) = (0 : Nat) ∧ T1.length = T1.length) ∧ ((0 : Nat) = (0 : Nat) ∧ T2.length = T2.length) ∧ ((0 : Nat) = (0 : Nat) ∧ T1.length = T1.length) ∧ (↑T1.length : Int) = (↑T1.length : Int) ∧ (↑(k + (1 : Nat)) : Int) = IntKind.i64.wrap ((↑k : Int) + (1 : Int))) ∧ (T1.length = T1.length ∧ (∀ (i : Nat), i < T1.length → tK T1 [i] = tK T1 [i]) ∧ (∀ (i : Nat), i < T1.length → tC T1 [i] = tC T1 [i]) ∧ (∀ (i : Nat), i < T1.length → tO T1 [i] = tO T1 [i]) ∧ ((∀ (i : Nat), i < T1.length → tM T1 [i] = tM T1 [i]) ∧ ∀ (i : Nat), i < T1.length → tL T1 [i] = tL T1 [i]) ∧ ∀ (i : Nat), i < T1.length → tU [i] = tU [i]) ∧ (T1.length = T1.length ∧ ∀ (m : Nat), m < T1.length → fL T1 m = fL T1 m ∧ ∀ (i : Nat), i < fL T1 m → fB T1 [m, i] = fB T1 [m, i]) ∧ (T2.length = T2.length ∧ (∀ (i : Nat), i < T2.length → tK T2 [i] = tK T2 [i]) ∧ (∀ (i : Nat), i < T2.length → tC T2 [i] = tC T2 [i]) ∧ (∀ (i : Nat), i < T2.length → tO T2 [i] = tO T2 [i]) ∧ ((∀ (i : Nat), i < T2.length → tM T2 [i] = tM T2 [i]) ∧ ∀ (i : Nat), i < T2.length → tL T2 [i] = tL T2 [i]) ∧ ∀ (i : Nat), i < T2.length → tU [i] = tU [i]) ∧ T2.length = T2.length ∧ ∀ (m : Nat), m < T2.length → fL T2 m = fL T2 m ∧ ∀ (i : Nat), i < fL T2 m → fB T2 [m, i] = fB T2 [m, i]) := by kernel_rfl

set_option maxHeartbeats 4000000 in
theorem cmR (N : Nat) (B : Ix → Int) (T1 T2 T3 : List Tok) (k : Nat) (hk : k < T1.length) (hl1 : T1.length ≤ 200) (hlen : T1.length = T2.length) (hk2 : T1.getD k z0 = T2.getD k z0) (hbo : (T1.getD k z0).body.length ≤ 1000)  (next : RunsTo Try.prog 4 (headOf Try.f4 1) (envAt Try.f4.ntmps ([(0, vL 100 1 N), (13, vL 131 5 T1.length), (14, vL 133 5 T2.length), (85, vL 131 5 T1.length), (86, vN T1.length), (87, vN (k + 1 : Nat))])) (Sx.look (rB 100 N B ++ (toE 131 132 T1 ++ toE 133 134 T2))) 110 (YES) (Sx.look []) 60000) :
    RunsTo Try.prog 4 (headOf Try.f4 1) (envAt Try.f4.ntmps ([(0, vL 100 1 N), (13, vL 131 5 T1.length), (14, vL 133 5 T2.length), (85, vL 131 5 T1.length), (86, vN T1.length), (87, vN (k : Nat))])) (Sx.look (rB 100 N B ++ (toE 131 132 T1 ++ toE 133 134 T2))) 110 (YES) (Sx.look []) 60000 := by
  have hw : IntKind.i64.wrap ((k : Int) + 1) = ((k + 1 : Nat) : Int) := by rw [wr64 (by omega)]; rfl
  have e1 : tK T1 [k] = tK T2 [k] := by simp only [tK, List.headD_cons, hk2]
  have e2 : tC T1 [k] = tC T2 [k] := by simp only [tC, List.headD_cons, hk2]
  have e3 : tO T1 [k] = tO T2 [k] := by simp only [tO, List.headD_cons, hk2]
  have e4 : bytesOf (fB T1) [tM T1 [k]] 0 (tL T1 [k]) = bytesOf (fB T2) [tM T2 [k]] 0 (tL T2 [k]) := by rw [fB_body T1 k hk, fB_body T2 k (by omega)]; simp only [tS, List.headD_cons, hk2]
  have e5 : tL T1 [k] = fL T1 (tM T1 [k]) := by simp only [tL, fL, tM, List.headD_cons]; rw [show T1.length - 1 - (T1.length - 1 - k) = k by omega]
  have e6 : tL T2 [k] = fL T2 (tM T2 [k]) := by simp only [tL, fL, tM, List.headD_cons]; rw [show T2.length - 1 - (T2.length - 1 - k) = k by omega]
  have e7 : tM T1 [k] < T1.length := by simp only [tM, List.headD_cons]; omega
  have e8 : tM T2 [k] < T2.length := by simp only [tM, List.headD_cons]; omega
  have e9 : tL T1 [k] ≤ 1000 := by simp only [tL, List.headD_cons]; exact hbo
  refine runs_more baseM (More.of (cmR_p0 N B T1 T2 T3 k) ⟨?oo, rfl, ?rr⟩) (by kernel_rfl) (by kernel_rfl) rfl (gtL (by decide)) (by decide) next
  case oo =>
    clear next
    refine (okc ?_ (okc ?_ (okc ?_ (okc ?_ (okc ?_ (okc ?_ (okc ?_ (okc ?_ (okc ?_ (okc ?_ (okc ?_ (okc ?_ okn))))))))))))
    all_goals ((try simp (disch := omega) only [SS, hw, e1, e2, e3, e4, Go.Sx.sum, Nat.zero_add]); first | done | omega | assumption | (simp (disch := omega) only [SS, hw, e1, e2, e3, e4, Go.Sx.sum, Nat.zero_add] at *; first | done | omega | assumption) | (simp_all; done))
  case rr =>
    clear next
    try simp (disch := omega) only [SS, hw, e1, e2, e3, e4, Go.Sx.sum, Nat.zero_add]
    repeat' apply And.intro
    all_goals first | exact True.intro | with_reducible rfl | omega | (intros; first | exact True.intro | with_reducible rfl | omega | (simp_all; done)) | (simp_all; done) | rfl

theorem cmE_p0 (N : Nat) (B : Ix → Int) (T1 T2 T3 : List Tok) (k : Nat) :
    isEnd (evTill Try.prog sumsM 800 (99) 900 4 (headOf Try.f4 1) (envAt Try.f4.ntmps ([(0, vL 100 1 N), (13, vL 131 5 T1.length), (14, vL 133 5 T2.length), (85, vL 131 5 T1.length), (86, vN T1.length), (87, vN (k : Nat))])) (rB 100 N B ++ (toE 131 132 T1 ++ toE 133 134 T2)) ⟨[.s false, .s true, .s true, .s true, .s true, .s true, .s true, .s true, .s true, .s true, .s true], 140⟩) (endP ([]) (YES) ([]) 60000) =
    (OkL [(decide ((↑k : Int) < (↑T1.length : Int)), false), (decide (N ≤ (200 : Nat)) && decide ((0 : Nat) ≤ (100 : Nat)) && (decide (N ≤ N) && bndB B N), true), (T1.length.beq T1.length, true), (decide (T1.length ≤ (1000 : Nat)), true), ((alF N (0 : Nat) B (fun x => (0 : Int)) false).length.beq (alF N (0 : Nat) B (fun x => (0 : Int)) false).length, true), (decide ((alF N (0 : Nat) B (fun x => (0 : Int)) false).length ≤ (1000 : Nat)), true), ((↑(otF (tK T1) T1.length) : Int) == (↑(otF (tK (alF N (0 : Nat) B (fun x => (0 : Int)) false)) (alF N (0 : Nat) B (fun x => (0 : Int)) false).length) : Int), true), (T2.length.beq T2.length, true), (decide (T2.length ≤ (1000 : Nat)), true), ((alF N (0 : Nat) B (fun x => (0 : Int)) false).length.beq (alF N (0 : Nat) B (fun x => (0 : Int)) false).length, true), (decide ((alF N (0 : Nat) B (fun x => (0 : Int)) false).length ≤ (1000 : Nat)), true)] ∧ true = ((↑(otF (tK T2) T2.length) : Int) == (↑(otF (tK (alF N (0 : Nat) B (fun x => (0 : Int)) false)) (alF N (0 : Nat) B (fun x => (0 : Int)) false).length) : Int)) ∧ True) := by kernel_rfl

set_option maxHeartbeats 4000000 in
theorem cmE (N : Nat) (B : Ix → Int) (T1 T2 T3 : List Tok) (k : Nat) (hk : k = T1.length) (hN : N ≤ 200) (hB : bndB B N = true) (hl1 : T1.length ≤ 200) (hl2 : T2.length ≤ 200) (hT3 : alF N 0 B (fun _ => 0) false = T3) (hl3 : T3.length ≤ 200) (ho1 : otF (tK T1) T1.length = otF (tK T3) T3.length) (ho2 : otF (tK T2) T2.length = otF (tK T3) T3.length)  :
    RunsTo Try.prog 4 (headOf Try.f4 1) (envAt Try.f4.ntmps ([(0, vL 100 1 N), (13, vL 131 5 T1.length), (14, vL 133 5 T2.length), (85, vL 131 5 T1.length), (86, vN T1.length), (87, vN (k : Nat))])) (Sx.look (rB 100 N B ++ (toE 131 132 T1 ++ toE 133 134 T2))) 110 (YES) (Sx.look ([])) 60000 := by
  refine runs_last baseM (Sx.Ends.of (cmE_p0 N B T1 T2 T3 k) ⟨?oo, ?rr⟩) (by kernel_rfl) rfl (gtL (by decide)) (by decide)
  case oo =>
    refine (okc ?_ (okc ?_ (okc ?_ (okc ?_ (okc ?_ (okc ?_ (okc ?_ (okc ?_ (okc ?_ (okc ?_ (okc ?_ okn)))))))))))
    all_goals first | omega | exact hB | (simp (disch := omega) only [SS, hT3, ho1, ho2, hB]; first | done | omega) | (simp_all; done) | (simp_all; omega)
  case rr =>
    try simp (disch := omega) only [SS, hT3, ho1, ho2]
    repeat' apply And.intro
    all_goals first | exact True.intro | rfl | (simp_all; done)

end Go.Proofs.Ytcphocfnhekdaaa
