/- The engine, part 22: a region, and one step of the machine. -/
import Derived.Test.YtankmgnjkcgpaaaDoorSyL
import Derived.Scope
set_option linter.unusedSimpArgs false
set_option linter.unusedVariables false
namespace Go.Sx

theorem edgesBack_ok : ∀ (i : Nat) (l : List (List Nat)), edgesBack i l = true → ∀ j k, k ∈ (nth l j).getD [] → k < i + j
  | _, [], _, j, k, h => by simp [nth] at h
  | i, x :: r, h, j, k, hk => by
    simp only [edgesBack] at h
    split at h
    · rename_i hb
      cases j with
      | zero => simp only [nth, Option.getD_some] at hk; have := below_ok hb k hk; omega
      | succ j =>
        simp only [nth] at hk
        have := edgesBack_ok (i + 1) r h j k hk; omega
    · simp at h

section
variable {P : Program} {ops : List Oper} {env0 : List SV} {H0 : List Ent} {n0 n1 : Nat} {tr : List Ev} {ρ0 : Con} {w0 : World} {a0 : Act}

def dOf (listed : Array Bool) : Nat → Bool := fun i => listed.getD i false

theorem dOf_set {listed : Array Bool} {i : Nat} (h : i < listed.size) : dOf (listed.setIfInBounds i true) = ins (dOf listed) i := by
  funext k
  simp only [dOf, ins]
  by_cases hk : k = i
  · subst hk; rw [if_pos rfl, Array.getD_eq_getD_getElem?, Array.getElem?_setIfInBounds_self_of_lt h]; rfl
  · rw [if_neg hk, Array.getD_eq_getD_getElem?, Array.getD_eq_getD_getElem?, Array.getElem?_setIfInBounds_ne (fun e => hk e.symm)]

theorem any_run (O : Ord P ops env0 H0 n0 n1 tr) (he0 : WFe env0 n0) (hh0 : WFh (look H0) n0) (hg : gtop P ≤ n0) {Q : Exit → Act → World → Prop}
    (hQ : ∀ ρ a w, Inv P env0 H0 n0 n1 tr ρ0 w0 a0 (fun _ => true) ρ a w → Q .normal a w) : ∀ (fuel : Nat) (listed : Array Bool) (ρ : Con) (a : Act) (w : World), listed.size = ops.length → listed.toList.count false = fuel →
    (∀ j, dOf listed j = true → ∀ k ∈ edgeAt ops j, dOf listed k = true) → Inv P env0 H0 n0 n1 tr ρ0 w0 a0 (dOf listed) ρ a w → wpAny P .any ops.toArray Q fuel listed a w := by
  intro fuel
  have done : ∀ (listed : Array Bool) (ρ : Con) (a : Act) (w : World), listed.size = ops.length → (∀ i, i < ops.length → dOf listed i = true) → Inv P env0 H0 n0 n1 tr ρ0 w0 a0 (dOf listed) ρ a w →
      Q .normal a w := by
    intro listed ρ a w hsz hall I
    refine hQ ρ a w ⟨I.size, I.defers, ?_, ?_, I.glob⟩
    · rw [foldE_congr (D := fun _ => true) (D' := dOf listed) tr 0 (fun j hj => by rw [Nat.zero_add, hall j (by have := O.len; omega)])]; exact I.slots
    · rw [foldL_congr (D := fun _ => true) (D' := dOf listed) tr 0 (fun j hj => by rw [Nat.zero_add, hall j (by have := O.len; omega)])]; exact I.res
  have notdone : ∀ (listed : Array Bool), listed.size = ops.length → Region.ready .any ops.toArray listed = [] → ∀ i, i < ops.length → dOf listed i = true := by
    intro listed hsz hr i
    induction i using Nat.strongRecOn with
    | _ i ih =>
      intro hi
      cases hd : dOf listed i with
      | true => rfl
      | false =>
        exfalso
        have hm : i ∈ Region.ready .any ops.toArray listed := by
          refine ready_some hi ?_ (fun k hk => ?_)
          · simp only [dOf, Array.getD_eq_getD_getElem?, Array.getElem?_eq_getElem (show i < listed.size by omega), Option.getD_some] at hd ⊢
            exact hd
          · have hlt := O.edges i k hk
            exact ih k hlt (by omega)
        rw [hr] at hm; cases hm
  induction fuel with
  | zero =>
    intro listed ρ a w hsz hc hD I
    have hall : ∀ i, i < ops.length → dOf listed i = true := by
      intro i hi
      cases hd : dOf listed i with
      | true => rfl
      | false =>
        exfalso
        have h1 : listed[i]'(by omega) = false := by
          simp only [dOf, Array.getD_eq_getD_getElem?, Array.getElem?_eq_getElem (show i < listed.size by omega), Option.getD_some] at hd
          exact hd
        have : false ∈ listed.toList := by rw [← h1]; simp
        have := List.count_pos_iff.2 this
        omega
    refine ⟨?_, done listed ρ a w hsz hall I⟩
    cases hr : Region.ready .any ops.toArray listed with
    | nil => rfl
    | cons i r =>
      exfalso
      have hm : i ∈ Region.ready .any ops.toArray listed := by rw [hr]; simp
      obtain ⟨h1, h2, _⟩ := mem_ready hm
      have := hall i h1
      simp only [dOf, Array.getD_eq_getD_getElem?, Array.getElem?_eq_getElem (show i < listed.size by omega), Option.getD_some] at h2 this
      rw [this] at h2; cases h2
  | succ fuel ih =>
    intro listed ρ a w hsz hc hD I
    refine ⟨fun hr => done listed ρ a w hsz (notdone listed hsz hr) I, ?_⟩
    intro i hi
    obtain ⟨h1, h2, h3⟩ := mem_ready hi
    have hlt : i < listed.size := by omega
    have hdi : dOf listed i = false := by
      simp only [dOf, Array.getD_eq_getD_getElem?, Array.getElem?_eq_getElem hlt, Option.getD_some] at h2 ⊢
      exact h2
    obtain ⟨ev, hev⟩ : ∃ ev, tr[i]? = some ev := ⟨_, List.getElem?_eq_getElem (show i < tr.length by have := O.len; omega)⟩
    refine any_step O he0 hh0 hg hD hev hdi h3 I (fun ρ' a' w' I' => ?_)
    refine ih _ ρ' a' w' (by simpa using hsz) ?_ ?_ (by rw [dOf_set hlt]; exact I')
    · rw [Array.toList_setIfInBounds, List.count_set (by simpa using hlt)]
      have : listed.toList[i]'(by simpa using hlt) = false := by
        simp only [dOf, Array.getD_eq_getD_getElem?, Array.getElem?_eq_getElem hlt, Option.getD_some] at hdi
        simpa using hdi
      simp [this, hc]
    · rw [dOf_set hlt]
      intro j hj k hk
      simp only [ins] at hj ⊢
      by_cases hki : k = i
      · rw [if_pos hki]
      · rw [if_neg hki]
        by_cases hji : j = i
        · subst hji; exact h3 k hk
        · rw [if_neg hji] at hj; exact hD j hj k hk

end

theorem HoldF.drawn {ρ : Con} {L : HF} {w : World} {n : Nat} (h : HoldF ρ L w) : HoldF ρ L { w with drawn := n } :=
  ⟨h.lab, fun l e he => Ent.holds_frame (S := fun _ => False) (h.all l e he) ⟨rfl, rfl, rfl, Nat.le_refl _, fun _ _ _ => rfl⟩ (fun _ _ h => h), h.sep⟩

theorem region_ok {P : Program} {S : List (FuncId × Summ)} {go : Go} (B : Base P S go) {id : Nat} {ops : Array Oper} {draw : Bool} {env env' : List SV} {H H' : List Ent} {x y : Aux} {d : Conds}
    (h : evRegion P S go ops.toList draw env H x = .ok (env', H') d y) (hd : OkL d) (he : WFe env x.nl) (hh : WFh (look H) x.nl) (hg : gtop P ≤ x.nl) :
    x.nl ≤ y.nl ∧ WFe env' y.nl ∧ WFh (look H') y.nl ∧ env'.length = env.length ∧
    ∀ (ρ : Con) (a : Act) (w : World), EnvOK ρ env a.tmps → HoldF ρ (look H) w → GlobOK P ρ →
      (Code.region id ops draw).wp P (fun e a' w' => e = .normal ∧ ∃ ρ', EnvOK ρ' env' a'.tmps ∧ a'.defers = a.defers ∧ Res ρ ρ' x.nl y.nl (look H) (look H') w w' ∧ GlobOK P ρ') a w := by
  unfold evRegion at h
  obtain ⟨⟨env1, H1, rs⟩, c1, y1, c2, h1, h2, rfl⟩ := bind_ok h
  simp only [OkL_append] at hd
  obtain ⟨tr, htr, hrs, g1, g2, g3, g4⟩ := regionL_trace B ops.toList ops.toList env H x y1 env1 H1 rs c1 h1 hd.1 he hh hg
  obtain ⟨p1, p2, p3, p4⟩ := trace_pos (len := env.length) htr rfl 0 (nth env) (LitOf.refl env)
  cases draw with
  | false =>
    simp only at h2
    obtain ⟨hp, rfl, rfl⟩ := pure_ok h2
    simp only [Prod.mk.injEq] at hp
    obtain ⟨rfl, rfl⟩ := hp
    refine ⟨g3, g1, g2, g4, fun ρ a w hE hH hG => wp_region_list ?_⟩
    have := trace_text ops.toList env H x.nl tr env' H' y1.nl htr ρ a w (fun e a' w' => e = .normal ∧ ∃ ρ', EnvOK ρ' env' a'.tmps ∧ a'.defers = a.defers ∧ Res ρ ρ' x.nl y1.nl (look H) (look H') w w' ∧ GlobOK P ρ')
      hE.1 hE.2 hH hG hg (fun ρ' a' w' q1 q2 q3 q4 q5 q6 => ⟨rfl, ρ', ⟨by rw [q1, hE.1, g4], q2⟩, q3, q4, q5⟩)
    simpa using this
  | true =>
    simp only at h2
    obtain ⟨_, c3, y3, c4, h3, h4, rfl⟩ := bind_ok h2
    obtain ⟨hback, rfl, rfl⟩ := chk_ok h3
    obtain ⟨_, c3, y3, c5, h3, h5, rfl⟩ := bind_ok h4
    obtain ⟨hall, rfl, rfl⟩ := chk_ok h3
    obtain ⟨hp, rfl, rfl⟩ := pure_ok h5
    simp only [Prod.mk.injEq] at hp
    obtain ⟨rfl, rfl⟩ := hp
    have O : Ord P ops.toList env H x.nl y1.nl tr := by
      refine ⟨?_, trace_ord htr, (trace_len htr).1, ?_, ?_⟩
      · intro j ev hj
        have := p1 j ev hj
        simpa only [Nat.zero_add] using this
      · intro i j evi evj hij hi hj hc
        have := allPairs_ok rs 0 hall j (recOf ops.toList evj) (by rw [hrs]; simp [hj]) i (recOf ops.toList evi) (by rw [hrs]; simp [hi]) (by omega) hc
        simpa only [Nat.zero_add] using this
      · intro j k hk
        have := edgesBack_ok 0 _ hback j k hk
        omega
    refine ⟨g3, g1, g2, g4, fun ρ a w hE hH hG => wp_region_any B.good.2 ?_⟩
    have hnone : dOf (Array.replicate ops.size false) = fun _ => false := by
      funext i
      simp only [dOf, Array.getD_eq_getD_getElem?, Array.getElem?_replicate]
      split <;> rfl
    have := any_run (ρ0 := ρ) (w0 := { w with drawn := w.drawn + 1 }) (a0 := a) O he hh hg (Q := fun e a' w' => e = .normal ∧ ∃ ρ', EnvOK ρ' env' a'.tmps ∧ a'.defers = a.defers ∧ Res ρ ρ' x.nl y1.nl (look H) (look H') w w' ∧ GlobOK P ρ')
      (fun ρ' a' w' I => ⟨rfl, ρ', ⟨by rw [I.size, g4], p3.slots I.slots⟩, I.defers, by
        have hr := I.res
        rw [← p2] at hr
        exact ⟨hr.agree, hr.hold, ⟨hr.frame.os, hr.frame.tape, hr.frame.output, hr.frame.size, hr.frame.block⟩, hr.own⟩, I.glob⟩)
      ops.size (Array.replicate ops.size false) ρ a { w with drawn := w.drawn + 1 } (by simp) (by simp) (by rw [hnone]; intro j hj; cases hj) (by
        rw [hnone]
        refine ⟨hE.1, rfl, ?_, ?_, hG⟩
        · rw [foldE_none _ _ (fun _ => rfl)]; exact hE.2
        · rw [foldL_none _ _ (fun _ => rfl)]; exact ⟨fun _ _ => rfl, hH.drawn, Fr.refl _ _, fun _ hk => .inl hk⟩)
    simpa using this

end Go.Sx
