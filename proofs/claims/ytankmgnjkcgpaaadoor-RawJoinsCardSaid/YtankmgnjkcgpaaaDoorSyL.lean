/- The engine, part 21: regions that draw their order: every order does the same. -/
import Derived.Test.YtankmgnjkcgpaaaDoorSyK
set_option linter.unusedSimpArgs false
set_option linter.unusedVariables false
namespace Go.Sx

theorem eff_res {ρ ρ' : Con} {L : HF} {w w' : World} {H : List Ent} {e : Eff} {n n' : Nat} (h : HoldF ρ L w) (hl : ∀ l ∈ e.rd, L l = look H l) (he : EffOK ρ ρ' n n' H e w w')
    (hn : (e.upd.map (·.lab)).Nodup) (hlab : ∀ l x, L l = some x → look e.upd l = none → l ∉ e.drop → (l < n ∨ n' ≤ l) ∧ ∀ k ∈ x.t.labs, k < n ∨ n' ≤ k) :
    Res ρ ρ' n n' L (applyF L e) w w' := by
  obtain ⟨hh', htouch⟩ := eff_apply h hl he hn hlab
  refine ⟨he.agree, hh', he.frame.mono (fun k hk => .inl (let ⟨l, x, h1, h2, h3⟩ := htouch k hk; ⟨l, x, h1, h2, h3⟩)), ?_⟩
  rintro k ⟨l, x, h1, h2, h3⟩
  unfold applyF at h1
  split at h1
  · rename_i y hy
    simp only [Option.some.injEq] at h1; subst h1
    rcases he.fresh _ (look_mem hy) k h3 with h4 | h4
    · left; obtain ⟨l', x', g1, g2, g3⟩ := htouch k h4; exact ⟨l', x', g1, g2, g3⟩
    · exact .inr h4
  · rename_i hu
    split at h1
    · cases h1
    · rename_i hd
      left
      refine ⟨l, x, h1, h2, ?_⟩
      exact (Ent.occ_agree (by rw [h.lab l x h1]; exact he.agree l (hlab l x h1 hu hd).1)).1 h3

theorem mem_upto {k : Nat} : ∀ {n a : Nat}, k ∈ upto a n ↔ a ≤ k ∧ k < a + n
  | 0, a => by simp [upto]
  | n + 1, a => by simp only [upto, List.mem_cons, mem_upto]; omega

def ins (D : Nat → Bool) (j : Nat) : Nat → Bool := fun i => if i = j then true else D i

structure Inv (P : Program) (env0 : List SV) (H0 : List Ent) (n0 n1 : Nat) (tr : List Ev) (ρ0 : Con) (w0 : World) (a0 : Act) (D : Nat → Bool) (ρ : Con) (a : Act) (w : World) : Prop where
  size : a.tmps.size = env0.length
  defers : a.defers = a0.defers
  slots : SlotsOK ρ (foldE env0.length D 0 tr (nth env0)) a.tmps
  res : Res ρ0 ρ n0 n1 (look H0) (foldL D 0 tr (look H0)) w0 w
  glob : GlobOK P ρ

theorem opd_at {P : Program} {ρ : Con} {env : List SV} {a : Act} (hG : GlobOK P ρ) (z : Operand) (h : ∀ t s, z = .tmp t → nth env t = some s → s.isJ = false → a.tmps[t]? = some (s.val ρ)) : OpdOK P ρ env a.eval z := by
  cases z with
  | tmp t =>
    intro hj
    simp only [Sx.opd] at hj ⊢
    cases ht : nth env t with
    | none => simp [ht, SV.isJ] at hj
    | some s =>
      simp only [ht, Option.getD_some] at hj ⊢
      have := h t s rfl ht hj
      simp [Act.eval, this]
  | const v => exact opd_const v
  | func f => exact opd_func f
  | _ => exact opd_global hG _

theorem mem_tmpsOf {t : Nat} : ∀ {l : List Operand}, Operand.tmp t ∈ l → t ∈ tmpsOf l
  | x :: r, h => by
    rcases List.mem_cons.1 h with h | h
    · subst h; simp [tmpsOf]
    · have := mem_tmpsOf h
      cases x <;> simp only [tmpsOf] <;> first | exact this | exact List.mem_cons_of_mem _ this

section
variable {P : Program} {ops : List Oper} {env0 : List SV} {H0 : List Ent} {n0 n1 : Nat} {tr : List Ev} {ρ0 : Con} {w0 : World} {a0 : Act}

theorem any_step (O : Ord P ops env0 H0 n0 n1 tr) (he0 : WFe env0 n0) (hh0 : WFh (look H0) n0) (hg : gtop P ≤ n0) {D : Nat → Bool} (hD : ∀ j, D j = true → ∀ k ∈ edgeAt ops j, D k = true)
    {j : Nat} {ev : Ev} (hj : tr[j]? = some ev) (hnj : D j = false) (hready : ∀ k ∈ edgeAt ops j, D k = true) {ρ : Con} {a : Act} {w : World}
    (I : Inv P env0 H0 n0 n1 tr ρ0 w0 a0 D ρ a w) {K : Act → World → Prop} {Q : Exit → Act → World → Prop}
    (hK : ∀ ρ' a' w', Inv P env0 H0 n0 n1 tr ρ0 w0 a0 (ins D j) ρ' a' w' → K a' w') : wpOp P ops.toArray Q j K a w := by
  obtain ⟨p1, F, p3, p4, p5, p6, p7⟩ := O.pos j ev hj
  have later : ∀ i evi, j < i → tr[i]? = some evi → D i = true → conflict (recOf ops ev) (recOf ops evi) = true → False := by
    intro i evi hji hi hDi hc
    have := reaches_closed hD _ _ _ (O.conf j i ev evi hji hj hi hc) (hD i hDi)
    rw [hnj] at this; cases this
  have before : ∀ i evi, i < j → tr[i]? = some evi → conflict (recOf ops evi) (recOf ops ev) = true → D i = true := by
    intro i evi hij hi hc
    exact reaches_closed hD _ _ _ (O.conf i j evi ev hij hi hj hc) hready
  have wrOf : ∀ (e : Ev) l, touched e.e l → l ∈ (recOf ops e).wr := by
    intro e l h
    simp only [recOf, List.mem_append]
    rcases h with h | h
    · exact .inl (.inl h)
    · exact .inl (.inr h)
  have rangeOf : ∀ l, ev.n ≤ l → l < ev.n' → l ∈ (recOf ops ev).wr := by
    intro l h1 h2
    simp only [recOf, List.mem_append]
    exact .inr (mem_upto.2 ⟨h1, by omega⟩)
  have hrd : ∀ l ∈ ev.e.rd, foldL D 0 tr (look H0) l = look ev.H l := by
    intro l hl
    rw [p3]
    refine foldL_pt tr 0 _ _ rfl (fun i evi hi ht => ?_)
    simp only [Nat.zero_add]
    rcases Nat.lt_trichotomy i j with h | h | h
    · rw [before i evi h hi (conflict_iff.2 (.inr (.inr (.inr (.inl ⟨l, wrOf evi l ht, hl⟩))))), decide_eq_true h]
    · subst h; rw [hnj, decide_eq_false (Nat.lt_irrefl _)]
    · rw [decide_eq_false (by omega)]
      cases hDi : D i with
      | false => rfl
      | true => exact (later i evi h hi hDi (conflict_iff.2 (.inr (.inr (.inr (.inr (.inr (.inl ⟨l, hl, wrOf evi l ht⟩))))))) ).elim
  have hsl : ∀ t ∈ looksOf ops ev.o, foldE env0.length D 0 tr (nth env0) t = foldE env0.length (fun i => decide (i < j)) 0 tr (nth env0) t := by
    intro t ht
    refine foldE_pt tr 0 _ _ rfl (fun i evi hi hd => ?_)
    simp only [Nat.zero_add]
    rcases Nat.lt_trichotomy i j with h | h | h
    · rw [before i evi h hi (conflict_iff.2 (.inl ⟨t, hd, ht⟩)), decide_eq_true h]
    · subst h; rw [hnj, decide_eq_false (Nat.lt_irrefl _)]
    · rw [decide_eq_false (by omega)]
      cases hDi : D i with
      | false => rfl
      | true => exact (later i evi h hi hDi (conflict_iff.2 (.inr (.inl ⟨t, hd, ht⟩)))).elim
  have slotAt : ∀ t s, t ∈ looksOf ops ev.o → nth ev.env t = some s → s.isJ = false → a.tmps[t]? = some (s.val ρ) := by
    intro t s ht hts hjn
    obtain ⟨s0, g1, g2, g3⟩ := p4 t s hts hjn
    rw [g3]
    exact I.slots t s0 (by rw [hsl t ht]; exact g1) g2
  have hwant := F.wanted ρ a.tmps slotAt
  have insL : foldL (ins D j) 0 tr (look H0) = applyF (foldL D 0 tr (look H0)) ev.e := by
    funext l
    by_cases ht : touched ev.e l
    · rw [applyF_in ht]
      refine foldL_last tr 0 j _ hj (by simp [ins]) ht (fun k ev' hjk hk ht' => ?_)
      simp only [Nat.zero_add, ins, if_neg (show ¬ k = j by omega)]
      cases hDk : D k with
      | false => rfl
      | true => exact (later k ev' hjk hk hDk (conflict_iff.2 (.inr (.inr (.inr (.inr (.inl ⟨l, wrOf _ l ht, wrOf _ l ht'⟩)))))) ).elim
    · rw [applyF_out ht]
      refine foldL_pt tr 0 _ _ rfl (fun i evi hi ht' => ?_)
      simp only [Nat.zero_add, ins]
      by_cases hij : i = j
      · subst hij; rw [hj] at hi; cases hi; exact absurd ht' ht
      · rw [if_neg hij]
  have insE : foldE env0.length (ins D j) 0 tr (nth env0) = putE' env0.length (foldE env0.length D 0 tr (nth env0)) ev.o.dst ev.e.v := by
    funext t
    by_cases ht : ev.o.dst = some t ∧ t < env0.length
    · rw [putE'_in ht]
      refine foldE_last tr 0 j _ hj (by simp [ins]) ht.1 ht.2 (fun k ev' hjk hk ht' => ?_)
      simp only [Nat.zero_add, ins, if_neg (show ¬ k = j by omega)]
      cases hDk : D k with
      | false => rfl
      | true => exact (later k ev' hjk hk hDk (conflict_iff.2 (.inr (.inr (.inl ⟨t, ht.1, ht'⟩))))).elim
    · rw [putE'_out ht]
      by_cases hlt : t < env0.length
      · refine foldE_pt tr 0 _ _ rfl (fun i evi hi ht' => ?_)
        simp only [Nat.zero_add, ins]
        by_cases hij : i = j
        · subst hij; rw [hj] at hi; cases hi; exact absurd ⟨ht', hlt⟩ ht
        · rw [if_neg hij]
      · have big : ∀ (D : Nat → Bool) (tr : List Ev) (i : Nat) (E : Nat → Option SV), foldE env0.length D i tr E t = E t := by
          intro D tr
          induction tr with
          | nil => intro i E; rfl
          | cons e r ih =>
            intro i E
            simp only [foldE]
            rw [ih]
            split
            · exact putE'_out (fun h => hlt h.2)
            · rfl
        rw [big, big]
  have hlab : ∀ l x, foldL D 0 tr (look H0) l = some x → (l < ev.n ∨ ev.n' ≤ l) ∧ ∀ k ∈ x.t.labs, k < ev.n ∨ ev.n' ≤ k := by
    intro l x hx
    rcases foldL_from tr 0 _ hx with h1 | ⟨i, evi, hi, hDi, hu⟩
    · obtain ⟨g1, g2⟩ := hh0 l x h1
      exact ⟨by omega, fun k hk => by have := g2 k hk; omega⟩
    · simp only [Nat.zero_add] at hDi
      obtain ⟨q1, Fi, q3, q4, q5, q6, q7⟩ := O.pos i evi hi
      have hlx := look_lab hu
      rcases Nat.lt_trichotomy i j with h | h | h
      · have := O.ord i j evi ev h hi hj
        obtain ⟨g1, g2⟩ := Fi.ulabs _ (look_mem hu)
        exact ⟨by omega, fun k hk => by have := g2 k hk; omega⟩
      · subst h; rw [hnj] at hDi; cases hDi
      · have hl : l ∈ (recOf ops evi).wr := wrOf evi l (.inl (List.mem_map.2 ⟨x, look_mem hu, hlx⟩))
        refine ⟨?_, fun k hk => ?_⟩
        · rcases Nat.lt_or_ge l ev.n with h1 | h1
          · exact .inl h1
          · rcases Nat.lt_or_ge l ev.n' with h2 | h2
            · exact (later i evi h hi hDi (conflict_iff.2 (.inr (.inr (.inr (.inr (.inl ⟨l, rangeOf l h1 h2, hl⟩))))))).elim
            · exact .inr h2
        · rcases Nat.lt_or_ge k ev.n with h1 | h1
          · exact .inl h1
          · rcases Nat.lt_or_ge k ev.n' with h2 | h2
            · have ho : k ∈ (recOf ops evi).out := by
                simp only [recOf, List.mem_append, List.mem_flatMap]
                exact .inr ⟨x, look_mem hu, hk⟩
              exact (later i evi h hi hDi (conflict_iff.2 (.inr (.inr (.inr (.inr (.inr (.inr ⟨k, rangeOf k h1 h2, ho⟩)))))))).elim
            · exact .inr h2
  have hslab : ∀ t s, foldE env0.length D 0 tr (nth env0) t = some s → ∀ l ∈ s.labs, l < ev.n ∨ ev.n' ≤ l := by
    intro t s hts l hl
    rcases foldE_from tr 0 _ hts with h1 | ⟨i, evi, hi, hDi, hs⟩
    · have := he0 t s h1 l hl; omega
    · simp only [Nat.zero_add] at hDi
      subst hs
      obtain ⟨q1, Fi, q3, q4, q5, q6, q7⟩ := O.pos i evi hi
      rcases Nat.lt_trichotomy i j with h | h | h
      · have := O.ord i j evi ev h hi hj
        have := Fi.vlabs l hl; omega
      · subst h; rw [hnj] at hDi; cases hDi
      · rcases Nat.lt_or_ge l ev.n with h1 | h1
        · exact .inl h1
        · rcases Nat.lt_or_ge l ev.n' with h2 | h2
          · have ho : l ∈ (recOf ops evi).out := by
              simp only [recOf, List.mem_append]
              exact .inl hl
            exact (later i evi h hi hDi (conflict_iff.2 (.inr (.inr (.inr (.inr (.inr (.inr ⟨l, rangeOf l h1 h2, ho⟩)))))))).elim
          · exact .inr h2
  unfold wpOp
  rw [List.getElem?_toArray, p1]
  simp only
  rw [hwant]
  cases hw : ev.want with
  | false =>
    simp only [Bool.false_eq_true, if_false]
    obtain ⟨hev, hn⟩ := F.skip hw
    refine hK ρ _ _ ⟨by rw [put_size]; exact I.size, by rw [put_defers]; exact I.defers, ?_, ?_, I.glob⟩
    · rw [insE]
      exact I.slots.put I.size _ _ _ (fun _ => by rw [hev]; rfl)
    · rw [insL]
      have : applyF (foldL D 0 tr (look H0)) ev.e = foldL D 0 tr (look H0) := by
        funext l
        exact applyF_out (by rw [hev]; simp [touched])
      rw [this]; exact I.res
  | true =>
    simp only [if_true]
    left
    have hops : ∀ z ∈ ev.o.op.operands.toList, OpdOK P ρ ev.env a.eval z := by
      intro z hz
      refine opd_at I.glob z (fun t s hzt hts hjn => slotAt t s ?_ hts hjn)
      subst hzt
      exact List.mem_append_left _ (mem_tmpsOf hz)
    have hd := F.does hw a.eval ρ w hops I.glob (I.res.hold.hps hrd)
    refine hd.wp (fun ρ' w' v hv heff => ?_)
    have hres := eff_res I.res.hold hrd heff F.nd (fun l x hx _ _ => hlab l x hx)
    refine hK ρ' _ _ ⟨by rw [put_size]; exact I.size, by rw [put_defers]; exact I.defers, ?_, ?_, ?_⟩
    · rw [insE]
      have h1 := I.slots.agree (ρ' := ρ') (fun t s hts l hl => heff.agree l (hslab t s hts l hl))
      exact h1.put I.size _ _ _ hv
    · rw [insL]
      have hle := F.le
      refine ⟨fun l hl => (hres.agree l (by omega)).trans (I.res.agree l hl), hres.hold, I.res.frame.trans hres.frame I.res.own, fun k hk => ?_⟩
      rcases hres.own k hk with h | h
      · exact I.res.own k h
      · right; have := I.res.frame.size; omega
    · exact I.glob.agree (fun l hl => heff.agree l (.inl (by omega)))

theorem edgeAt_eq {j : Nat} {o : Oper} (h : ops[j]? = some o) : edgeAt ops j = edgesOf o := by
  simp [edgeAt, nth_eq, h]

theorem mem_ready {i : Nat} {listed : Array Bool} (h : i ∈ Region.ready .any ops.toArray listed) :
    i < ops.length ∧ listed.getD i true = false ∧ ∀ k ∈ edgeAt ops i, listed.getD k false = true := by
  simp only [Region.ready, List.mem_filter, List.mem_range, Bool.and_eq_true, Bool.not_eq_true', List.size_toArray, List.getElem?_toArray] at h
  obtain ⟨h1, h2, h3⟩ := h
  refine ⟨h1, h2, ?_⟩
  obtain ⟨o, ho⟩ : ∃ o, ops[i]? = some o := ⟨_, List.getElem?_eq_getElem h1⟩
  rw [edgeAt_eq ho]
  intro k hk
  simp only [ho, Option.map_some, Option.getD_some] at h3
  simp only [edgesOf, List.mem_map, List.mem_filter] at hk
  obtain ⟨e, ⟨he1, he2⟩, rfl⟩ := hk
  rw [Array.all_eq_true_iff_forall_mem] at h3
  have := h3 e (by simpa using he1)
  simpa [he2] using this

theorem ready_some {i : Nat} {listed : Array Bool} (h1 : i < ops.length) (h2 : listed.getD i true = false) (h3 : ∀ k ∈ edgeAt ops i, listed.getD k false = true) : i ∈ Region.ready .any ops.toArray listed := by
  simp only [Region.ready, List.mem_filter, List.mem_range, Bool.and_eq_true, Bool.not_eq_true', List.size_toArray, List.getElem?_toArray]
  refine ⟨h1, h2, ?_⟩
  obtain ⟨o, ho⟩ : ∃ o, ops[i]? = some o := ⟨_, List.getElem?_eq_getElem h1⟩
  rw [edgeAt_eq ho] at h3
  simp only [ho, Option.map_some, Option.getD_some]
  rw [Array.all_eq_true_iff_forall_mem]
  intro e he
  cases hb : Region.binds .any e with
  | false => simp
  | true =>
    have := h3 e.on (by simp only [edgesOf, List.mem_map, List.mem_filter]; exact ⟨e, ⟨by simpa using he, hb⟩, rfl⟩)
    simp [this]

end

end Go.Sx
