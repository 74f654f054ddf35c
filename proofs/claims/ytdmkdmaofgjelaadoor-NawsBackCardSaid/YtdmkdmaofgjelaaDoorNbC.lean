/- NawsBack. -/
import Derived.Test.YtdmkdmaofgjelaaDoorRows
import Derived.Test.YtdmkdmaofgjelaaDoorSxP
set_option linter.unusedSimpArgs false
set_option linter.unusedVariables false
set_option maxRecDepth 100000
namespace Go.Proofs.YtdmkdmaofgjelaaDoor
open Go.Sx

theorem goodP : PGood Tryd.prog := good_of (by kernel_rfl) (by kernel_rfl)
def vi (a : Int) : SV := .v (.vi .i64 fun _ => a)

theorem okn : OkL [] := fun p hp => by cases hp
theorem okc {c b : Bool} {d : Conds} (h : c = b) (hd : OkL d) : OkL ((c, b) :: d) := fun p hp => by
  rcases List.mem_cons.1 hp with rfl | hp
  · exact h
  · exact hd p hp

def fitL (a b : Int) : Int :=
  if ((if 0 > a then 0 else a) == 0) = true then (if 0 > b then 0 else b)
  else if ((if 0 > b then 0 else b) == 0) = true then (if 0 > a then 0 else a)
  else if (if 0 > b then 0 else b) < (if 0 > a then 0 else a) then (if 0 > b then 0 else b) else (if 0 > a then 0 else a)

theorem fit_calls (a b : Int) (w : World) : Calls Tryd.prog 53 #[.int .i64 a, .int .i64 b] w fun e w' => e = .returned (.int .i64 (fitL a b)) ∧ RowKit.Below w.heap.size w w' := by
  have go : ∀ (o : List Hint), isRet (evFn Tryd.prog [] 400 53 Tryd.f53 [vi a, vi b] [] o 200) (fun v d => OkL d ∧ v.isJ = false ∧ ∀ ρ, v.val ρ = .int .i64 (fitL a b)) →
      Calls Tryd.prog 53 #[.int .i64 a, .int .i64 b] w fun e w' => e = .returned (.int .i64 (fitL a b)) ∧ RowKit.Below w.heap.size w w' := fun o h =>
    calls_val (ρ := conG) (Base0.nil goodP) Tryd.func53 (by kernel_rfl) ⟨h⟩ (by kernel_rfl) rfl rfl (of_decide_eq_true (by kernel_rfl)) rfl
      (fun t s ht hj => by
        match t with
        | 0 => simp only [List.getElem?_cons_zero, Option.some.injEq] at ht; subst ht; rfl
        | 1 => simp only [List.getElem?_cons_succ, List.getElem?_cons_zero, Option.some.injEq] at ht; subst ht; rfl
        | t + 2 => simp at ht) (hold0 _ _) (globG _)
  by_cases h1 : ((if 0 > a then 0 else a) == 0) = true
  · have e : (isRet (evFn Tryd.prog [] 400 53 Tryd.f53 [vi a, vi b] [] [.s true] 200) (fun v d => OkL d ∧ v.isJ = false ∧ ∀ ρ, v.val ρ = .int .i64 (fitL a b))) =
        (OkL [((if 0 > a then 0 else a) == 0, true)] ∧ false = false ∧ ∀ ρ : Con, Value.int .i64 (if 0 > b then 0 else b) = .int .i64 (fitL a b)) := by kernel_rfl
    refine go [.s true] ?_; rw [e]; exact ⟨okc h1 okn, rfl, fun _ => by simp only [fitL, if_pos h1]⟩
  · by_cases h2 : ((if 0 > b then 0 else b) == 0) = true
    · have e : (isRet (evFn Tryd.prog [] 400 53 Tryd.f53 [vi a, vi b] [] [.s false, .s true] 200) (fun v d => OkL d ∧ v.isJ = false ∧ ∀ ρ, v.val ρ = .int .i64 (fitL a b))) =
          (OkL [((if 0 > a then 0 else a) == 0, false), ((if 0 > b then 0 else b) == 0, true)] ∧ false = false ∧ ∀ ρ : Con, Value.int .i64 (if 0 > a then 0 else a) = .int .i64 (fitL a b)) := by kernel_rfl
      refine go [.s false, .s true] ?_; rw [e]; exact ⟨okc (by simpa using h1) (okc h2 okn), rfl, fun _ => by simp only [fitL, if_neg h1, if_pos h2]⟩
    · have e : (isRet (evFn Tryd.prog [] 400 53 Tryd.f53 [vi a, vi b] [] [.s false, .s false] 200) (fun v d => OkL d ∧ v.isJ = false ∧ ∀ ρ, v.val ρ = .int .i64 (fitL a b))) =
          (OkL [((if 0 > a then 0 else a) == 0, false), ((if 0 > b then 0 else b) == 0, false)] ∧ false = false ∧ ∀ ρ : Con, Value.int .i64 (if (if 0 > b then 0 else b) < (if 0 > a then 0 else a) then (if 0 > b then 0 else b) else (if 0 > a then 0 else a)) = .int .i64 (fitL a b)) := by kernel_rfl
      refine go [.s false, .s false] ?_; rw [e]; exact ⟨okc (by simpa using h1) (okc (by simpa using h2) okn), rfl, fun _ => by simp only [fitL, if_neg h1, if_neg h2]⟩

def fitS : Summ := fun args _ =>
  match args with
  | [.v (.vi .i64 a), .v (.vi .i64 b)] => pure ⟨.v (.vi .i64 fun is => fitL (a is) (b is)), [], [], []⟩
  | _ => M.fail

theorem fitS_ok : ∀ args H x e d y, fitS args H x = .ok e d y → OkL d → (∀ a ∈ args, ∀ l ∈ a.labs, l < x.nl) → WFh (Sx.look H) x.nl → Tryd.prog.globals.size ≤ x.nl → CallOK Tryd.prog 53 args H x.nl e y.nl := by
  intro args H x e d y h h2 h3 h4 h5
  clear h2 h3 h4 h5
  unfold fitS at h
  split at h
  · rename_i a b
    obtain ⟨rfl, rfl, rfl⟩ := pure_ok h
    refine callOK_pure fun ρ w av hlen hav hG => ?_
    match av, hlen with
    | [u, v], _ =>
      have h0 := hav 0 _ u rfl rfl rfl
      have h1 := hav 1 _ v rfl rfl rfl
      subst h0; subst h1
      exact fit_calls (a []) (b []) w
  · exact (fail_ok h).elim

def rightB (n : Int) : Bool := decide (n ≥ 0) && decide (n ≤ 65535)

theorem right_calls (a : Int) (w : World) : Calls Tryd.prog 54 #[.int .i64 a] w fun e w' => e = .returned (.bool (rightB a)) ∧ RowKit.Below w.heap.size w w' := by
  have go : ∀ (o : List Hint), isRet (evFn Tryd.prog [] 400 54 Tryd.f54 [vi a] [] o 200) (fun v d => OkL d ∧ v.isJ = false ∧ ∀ ρ, v.val ρ = .bool (rightB a)) →
      Calls Tryd.prog 54 #[.int .i64 a] w fun e w' => e = .returned (.bool (rightB a)) ∧ RowKit.Below w.heap.size w w' := fun o h =>
    calls_val (ρ := conG) (Base0.nil goodP) Tryd.func54 (by kernel_rfl) ⟨h⟩ (by kernel_rfl) rfl rfl (of_decide_eq_true (by kernel_rfl)) rfl
      (fun t s ht hj => by
        match t with
        | 0 => simp only [List.getElem?_cons_zero, Option.some.injEq] at ht; subst ht; rfl
        | t + 1 => simp at ht) (hold0 _ _) (globG _)
  by_cases h1 : decide (a ≥ 0) = true
  · have e : (isRet (evFn Tryd.prog [] 400 54 Tryd.f54 [vi a] [] [.s true] 200) (fun v d => OkL d ∧ v.isJ = false ∧ ∀ ρ, v.val ρ = .bool (rightB a))) =
        (OkL [(decide (a ≥ 0), true)] ∧ false = false ∧ ∀ ρ : Con, Value.bool (decide (a ≤ 65535)) = .bool (rightB a)) := by kernel_rfl
    refine go [.s true] ?_; rw [e]; exact ⟨okc h1 okn, rfl, fun _ => by simp only [rightB, h1, Bool.true_and]⟩
  · have h1 : decide (a ≥ 0) = false := by simpa using h1
    have e : (isRet (evFn Tryd.prog [] 400 54 Tryd.f54 [vi a] [] [.s false] 200) (fun v d => OkL d ∧ v.isJ = false ∧ ∀ ρ, v.val ρ = .bool (rightB a))) =
        (OkL [(decide (a ≥ 0), false)] ∧ false = false ∧ ∀ ρ : Con, Value.bool false = .bool (rightB a)) := by kernel_rfl
    refine go [.s false] ?_; rw [e]; exact ⟨okc h1 okn, rfl, fun _ => by simp only [rightB, h1, Bool.false_and]⟩

def rightS : Summ := fun args _ =>
  match args with
  | [.v (.vi .i64 a)] => pure ⟨.v (.vb fun is => rightB (a is)), [], [], []⟩
  | _ => M.fail

theorem rightS_ok : ∀ args H x e d y, rightS args H x = .ok e d y → OkL d → (∀ a ∈ args, ∀ l ∈ a.labs, l < x.nl) → WFh (Sx.look H) x.nl → Tryd.prog.globals.size ≤ x.nl → CallOK Tryd.prog 54 args H x.nl e y.nl := by
  intro args H x e d y h h2 h3 h4 h5
  clear h2 h3 h4 h5
  unfold rightS at h
  split at h
  · rename_i a
    obtain ⟨rfl, rfl, rfl⟩ := pure_ok h
    refine callOK_pure fun ρ w av hlen hav hG => ?_
    match av, hlen with
    | [u], _ =>
      have h0 := hav 0 _ u rfl rfl rfl
      subst h0
      exact right_calls (a []) w
  · exact (fail_ok h).elim

def sums : List (FuncId × Summ) := [(54, rightS), (53, fitS)]
theorem base : Base0 Tryd.prog sums :=
  (Base0.nil goodP |>.cons Tryd.func53 (by kernel_rfl) fitS_ok).cons Tryd.func54 (by kernel_rfl) rightS_ok

end Go.Proofs.YtdmkdmaofgjelaaDoor
