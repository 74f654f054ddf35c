/- Special characters: which settings are right. -/
import Derived.Test.YtdmkdmaofgjelaaRows
import Derived.Test.YtdmkdmaofgjelaaSxX
set_option linter.unusedSimpArgs false
set_option linter.unusedVariables false
set_option maxRecDepth 100000
namespace Go.Proofs.Ytdmkdmaofgjelaa
open Go.Sx

theorem goodP : PGood Try.prog := good_of (by kernel_rfl) (by kernel_rfl)
theorem gtop0 : gtop Try.prog = 0 := by kernel_rfl
theorem gtopN {n : Nat} : gtop Try.prog ≤ n := by rw [gtop0]; exact Nat.zero_le _
theorem okn : OkL [] := fun p hp => by cases hp
theorem okc {c b : Bool} {d : Conds} (h : c = b) (hd : OkL d) : OkL ((c, b) :: d) := fun p hp => by
  rcases List.mem_cons.1 hp with rfl | hp
  · exact h
  · exact hd p hp
theorem wr64 {x : Int} (h : -9223372036854775808 ≤ x ∧ x < 9223372036854775808) : IntKind.i64.wrap x = x := by
  simp only [IntKind.wrap, IntKind.bits, IntKind.signed]
  simp
  omega
theorem yes {p : Prop} [Decidable p] (h : p) : decide p = true := decide_eq_true h
theorem no {p : Prop} [Decidable p] (h : ¬ p) : decide p = false := decide_eq_false h
theorem blt {a b : Nat} (h : a < b) : Nat.blt a b = true := by simpa [Nat.blt_eq] using h
theorem ble {a b : Nat} (h : a ≤ b) : Nat.ble a b = true := by rw [Nat.ble_eq]; exact h
theorem eqb {a b : Int} (h : a = b) : (a == b) = true := by simp [h]
theorem neb {a b : Int} (h : a ≠ b) : (a == b) = false := by simp [h]

def sv2 (l v : Int) : SV := .agg (.tc (.vi .i64 fun _ => l) (.tc (.vi .i64 fun _ => v) .t0))
def fineB (l v : Int) : Bool := decide (0 ≤ l) && decide (l ≤ 3) && decide (0 ≤ v) && decide (v ≤ 255) && (!(l == 0 || l == 3) || v == 0)

theorem rt_t0 (l v : Int) :
    isEnd (evTill Try.prog [] 100 99 100 9 [.code (bodyOf Try.f9)] (envOf [sv2 l v] Try.f9.ntmps) [] ⟨[.s true, .s false], 10⟩) (endP [] (.v (.vb fun _ => false)) [] 20) =
    (OkL [(l == (0 : Int), true), (decide (l ≥ (0 : Int)), false)] ∧ false = false ∧ True) := by kernel_rfl

theorem rt_t1 (l v : Int) :
    isEnd (evTill Try.prog [] 100 99 100 9 [.code (bodyOf Try.f9)] (envOf [sv2 l v] Try.f9.ntmps) [] ⟨[.s true, .s true, .s false], 10⟩) (endP [] (.v (.vb fun _ => false)) [] 20) =
    (OkL [(l == (0 : Int), true), (decide (l ≥ (0 : Int)), true), (decide (l ≤ (3 : Int)), false)] ∧ false = false ∧ True) := by kernel_rfl

theorem rt_t2 (l v : Int) :
    isEnd (evTill Try.prog [] 100 99 100 9 [.code (bodyOf Try.f9)] (envOf [sv2 l v] Try.f9.ntmps) [] ⟨[.s true, .s true, .s true, .s false], 10⟩) (endP [] (.v (.vb fun _ => false)) [] 20) =
    (OkL
    [(l == (0 : Int), true), (decide (l ≥ (0 : Int)), true), (decide (l ≤ (3 : Int)), true),
      (decide (v ≥ (0 : Int)), false)] ∧
  false = false ∧ True) := by kernel_rfl

theorem rt_t3 (l v : Int) :
    isEnd (evTill Try.prog [] 100 99 100 9 [.code (bodyOf Try.f9)] (envOf [sv2 l v] Try.f9.ntmps) [] ⟨[.s true, .s true, .s true, .s true, .s false], 10⟩) (endP [] (.v (.vb fun _ => false)) [] 20) =
    (OkL
    [(l == (0 : Int), true), (decide (l ≥ (0 : Int)), true), (decide (l ≤ (3 : Int)), true),
      (decide (v ≥ (0 : Int)), true), (decide (v ≤ (255 : Int)), false)] ∧
  false = false ∧ True) := by kernel_rfl

theorem rt_f0 (l v : Int) :
    isEnd (evTill Try.prog [] 100 99 100 9 [.code (bodyOf Try.f9)] (envOf [sv2 l v] Try.f9.ntmps) [] ⟨[.s false, .s false], 10⟩) (endP [] (.v (.vb fun _ => false)) [] 20) =
    (OkL [(l == (0 : Int), false), (decide (l ≥ (0 : Int)), false)] ∧ false = false ∧ True) := by kernel_rfl

theorem rt_f1 (l v : Int) :
    isEnd (evTill Try.prog [] 100 99 100 9 [.code (bodyOf Try.f9)] (envOf [sv2 l v] Try.f9.ntmps) [] ⟨[.s false, .s true, .s false], 10⟩) (endP [] (.v (.vb fun _ => false)) [] 20) =
    (OkL [(l == (0 : Int), false), (decide (l ≥ (0 : Int)), true), (decide (l ≤ (3 : Int)), false)] ∧
  false = false ∧ True) := by kernel_rfl

theorem rt_f2 (l v : Int) :
    isEnd (evTill Try.prog [] 100 99 100 9 [.code (bodyOf Try.f9)] (envOf [sv2 l v] Try.f9.ntmps) [] ⟨[.s false, .s true, .s true, .s false], 10⟩) (endP [] (.v (.vb fun _ => false)) [] 20) =
    (OkL
    [(l == (0 : Int), false), (decide (l ≥ (0 : Int)), true), (decide (l ≤ (3 : Int)), true),
      (decide (v ≥ (0 : Int)), false)] ∧
  false = false ∧ True) := by kernel_rfl

theorem rt_f3 (l v : Int) :
    isEnd (evTill Try.prog [] 100 99 100 9 [.code (bodyOf Try.f9)] (envOf [sv2 l v] Try.f9.ntmps) [] ⟨[.s false, .s true, .s true, .s true, .s false], 10⟩) (endP [] (.v (.vb fun _ => false)) [] 20) =
    (OkL
    [(l == (0 : Int), false), (decide (l ≥ (0 : Int)), true), (decide (l ≤ (3 : Int)), true),
      (decide (v ≥ (0 : Int)), true), (decide (v ≤ (255 : Int)), false)] ∧
  false = false ∧ True) := by kernel_rfl

theorem rt_t4 (l v : Int) :
    isEnd (evTill Try.prog [] 100 99 100 9 [.code (bodyOf Try.f9)] (envOf [sv2 l v] Try.f9.ntmps) [] ⟨[.s true, .s true, .s true, .s true, .s true], 10⟩) (endP [] (.v (.vb fun _ => v == 0)) [] 20) =
    (OkL
    [(l == (0 : Int), true), (decide (l ≥ (0 : Int)), true), (decide (l ≤ (3 : Int)), true),
      (decide (v ≥ (0 : Int)), true), (decide (v ≤ (255 : Int)), true)] ∧
  (v == (0 : Int)) = (v == (0 : Int)) ∧ True) := by kernel_rfl

theorem rt_f4 (l v : Int) :
    isEnd (evTill Try.prog [] 100 99 100 9 [.code (bodyOf Try.f9)] (envOf [sv2 l v] Try.f9.ntmps) [] ⟨[.s false, .s true, .s true, .s true, .s true, .s true], 10⟩) (endP [] (.v (.vb fun _ => true)) [] 20) =
    (OkL
    [(l == (0 : Int), false), (decide (l ≥ (0 : Int)), true), (decide (l ≤ (3 : Int)), true),
      (decide (v ≥ (0 : Int)), true), (decide (v ≤ (255 : Int)), true), (!l == (3 : Int), true)] ∧
  true = true ∧ True) := by kernel_rfl

theorem rt_f5 (l v : Int) :
    isEnd (evTill Try.prog [] 100 99 100 9 [.code (bodyOf Try.f9)] (envOf [sv2 l v] Try.f9.ntmps) [] ⟨[.s false, .s true, .s true, .s true, .s true, .s false], 10⟩) (endP [] (.v (.vb fun _ => v == 0)) [] 20) =
    (OkL
    [(l == (0 : Int), false), (decide (l ≥ (0 : Int)), true), (decide (l ≤ (3 : Int)), true),
      (decide (v ≥ (0 : Int)), true), (decide (v ≤ (255 : Int)), true), (!l == (3 : Int), false)] ∧
  (v == (0 : Int)) = (v == (0 : Int)) ∧ True) := by kernel_rfl


theorem right_runs (l v : Int) : RunsTo Try.prog 9 [.code (bodyOf Try.f9)] (envOf [sv2 l v] Try.f9.ntmps) (Sx.look []) 10 (.v (.vb fun _ => fineB l v)) (Sx.look []) 20 := by
  have fin : ∀ {o : List Hint} {b : Bool}, b = fineB l v → Sx.Ends Try.prog [] 100 99 100 9 [.code (bodyOf Try.f9)] (envOf [sv2 l v] Try.f9.ntmps) [] o 10 [] (.v (.vb fun _ => b)) [] 20 →
      RunsTo Try.prog 9 [.code (bodyOf Try.f9)] (envOf [sv2 l v] Try.f9.ntmps) (Sx.look []) 10 (.v (.vb fun _ => fineB l v)) (Sx.look []) 20 := fun hb h => by
    rw [← hb]
    exact runs_last (Base0.nil goodP) h (by kernel_rfl) rfl gtopN (Nat.le_refl _)
  by_cases h0 : l = 0
  · by_cases h1 : l ≥ 0
    · by_cases h2 : l ≤ 3
      · by_cases h3 : v ≥ 0
        · by_cases h4 : v ≤ 255
          · exact fin (b := v == 0) (by simp [fineB, h0, h3, h4]) (Sx.Ends.of (rt_t4 l v) ⟨okc (eqb h0) (okc (yes h1) (okc (yes h2) (okc (yes h3) (okc (yes h4) okn)))), rfl, trivial⟩)
          · exact fin (b := false) (by simp [fineB, h4]) (Sx.Ends.of (rt_t3 l v) ⟨okc (eqb h0) (okc (yes h1) (okc (yes h2) (okc (yes h3) (okc (no h4) okn)))), rfl, trivial⟩)
        · exact fin (b := false) (by simp [fineB, show ¬ 0 ≤ v by omega]) (Sx.Ends.of (rt_t2 l v) ⟨okc (eqb h0) (okc (yes h1) (okc (yes h2) (okc (no h3) okn))), rfl, trivial⟩)
      · exact fin (b := false) (by simp [fineB, h2]) (Sx.Ends.of (rt_t1 l v) ⟨okc (eqb h0) (okc (yes h1) (okc (no h2) okn)), rfl, trivial⟩)
    · exact fin (b := false) (by simp [fineB, show ¬ 0 ≤ l by omega]) (Sx.Ends.of (rt_t0 l v) ⟨okc (eqb h0) (okc (no h1) okn), rfl, trivial⟩)
  · by_cases h1 : l ≥ 0
    · by_cases h2 : l ≤ 3
      · by_cases h3 : v ≥ 0
        · by_cases h4 : v ≤ 255
          · by_cases h5 : l = 3
            · exact fin (b := v == 0) (by simp [fineB, h5, h3, h4]) (Sx.Ends.of (rt_f5 l v) ⟨okc (neb h0) (okc (yes h1) (okc (yes h2) (okc (yes h3) (okc (yes h4) (okc (by simp [h5]) okn))))), rfl, trivial⟩)
            · exact fin (b := true) (by simp [fineB, h0, h5]; omega) (Sx.Ends.of (rt_f4 l v) ⟨okc (neb h0) (okc (yes h1) (okc (yes h2) (okc (yes h3) (okc (yes h4) (okc (by simp [h5]) okn))))), rfl, trivial⟩)
          · exact fin (b := false) (by simp [fineB, h4]) (Sx.Ends.of (rt_f3 l v) ⟨okc (neb h0) (okc (yes h1) (okc (yes h2) (okc (yes h3) (okc (no h4) okn)))), rfl, trivial⟩)
        · exact fin (b := false) (by simp [fineB, show ¬ 0 ≤ v by omega]) (Sx.Ends.of (rt_f2 l v) ⟨okc (neb h0) (okc (yes h1) (okc (yes h2) (okc (no h3) okn))), rfl, trivial⟩)
      · exact fin (b := false) (by simp [fineB, h2]) (Sx.Ends.of (rt_f1 l v) ⟨okc (neb h0) (okc (yes h1) (okc (no h2) okn)), rfl, trivial⟩)
    · exact fin (b := false) (by simp [fineB, show ¬ 0 ≤ l by omega]) (Sx.Ends.of (rt_f0 l v) ⟨okc (neb h0) (okc (no h1) okn), rfl, trivial⟩)

def rightS : Summ := fun args _ =>
  match args with
  | [.agg (.tc (.vi .i64 f) (.tc (.vi .i64 g) .t0))] => do
    bump 10
    pure ⟨.v (.vb fun _ => fineB (f []) (g [])), [], [], []⟩
  | _ => M.fail

theorem rightS_ok : ∀ args H x e d y, rightS args H x = .ok e d y → OkL d → (∀ a ∈ args, ∀ l ∈ a.labs, l < x.nl) → WFh (Sx.look H) x.nl → gtop Try.prog ≤ x.nl → CallOK Try.prog 9 args H x.nl e y.nl := by
  intro args H x e d y h hd h3 h4 h5
  unfold rightS at h
  split at h
  · rename_i f g
    obtain ⟨x8, n8, h⟩ := bump_bind h
    obtain ⟨rfl, rfl, rfl⟩ := pure_ok h
    rw [n8]
    exact useC_ok (σ := []) Try.func9 (body := bodyOf Try.f9) (by kernel_rfl) (cargs := [sv2 (f []) (g [])]) (C := []) (C' := []) (n := 10) (n' := 20) (right_runs (f []) (g [])) rfl rfl ⟨⟨rfl, rfl⟩, trivial⟩ trivial rfl rfl rfl rfl
  · exact (fail_ok h).elim

end Go.Proofs.Ytdmkdmaofgjelaa
