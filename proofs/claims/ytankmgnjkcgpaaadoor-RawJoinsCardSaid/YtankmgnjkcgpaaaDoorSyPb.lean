/- The engine, part 38: a contract told by patterns, used at its calls. -/
import Derived.Test.YtankmgnjkcgpaaaDoorSyPa
set_option linter.unusedSimpArgs false
set_option linter.unusedVariables false
namespace Go.Sx

theorem srcs_app {σ : Sg} : ∀ (a b : List Ent), srcsOf σ (a ++ b) = srcsOf σ a ++ srcsOf σ b
  | [], b => rfl
  | e :: r, b => by
    simp only [List.cons_append, srcsOf, srcs_app r b]
    split <;> rfl

theorem srcs_sent' {G tp : Nat} {σ : Sg} {H : List Ent} (hk : ∀ l, l < G + G → sgOf σ l = .to l) : ∀ (gs : List Nat), (∀ g ∈ gs, g < G) → srcsOf σ (sentEnts G tp (textsIn G H gs)) = errLabs G gs
  | [], _ => rfl
  | g :: r, h => by
    have hg := h g (by simp)
    simp only [textsIn, sentEnts, srcsOf, srcL, errLabs, hk g (by omega), hk (G + g) (by omega)]
    rw [srcs_sent' hk r (fun q hq => h q (List.mem_cons_of_mem _ hq))]

structure PC.Runs (P : Program) (f : FuncId) (fn : Func) (body : Code) (c : PC) : Prop where
  fnO : P.funcs[f]? = some fn
  bodyO : fn.body = some body
  low : ∀ g ∈ c.gs, g < c.G
  runs : ∀ (e : PEnv) (H : List Ent), c.cond e = true → RunsTo P f [.code body] (envOf (c.cargs e) fn.ntmps) (look (c.pre e H)) c.n (c.v e) (look (c.post e)) c.n'

theorem PC.summ_ok {P : Program} {f : FuncId} {fn : Func} {body : Code} {c : PC} {gt : Nat} (R : PC.Runs P f fn body c) (hgt : gtop P = gt) :
    ∀ args H x e d y, c.summ gt args H x = .ok e d y → OkL d → (∀ a ∈ args, ∀ l ∈ a.labs, l < x.nl) → WFh (look H) x.nl → gtop P ≤ x.nl → CallOK P f args H x.nl e y.nl := by
  subst hgt
  intro args H x e d y h hd h3 h4 h5
  unfold PC.summ at h
  replace h := nlOf_bind h
  obtain ⟨s0, hs0, h0⟩ := opt_bind h
  clear h
  obtain ⟨s1, hs1, h⟩ := opt_bind h0
  clear h0
  obtain ⟨s2, hs2, h0⟩ := opt_bind h
  clear h
  obtain ⟨s, hs, h⟩ := opt_bind h0
  clear h0
  obtain ⟨e0, h0⟩ := chk_bind h
  clear h
  obtain ⟨e1, h⟩ := chk_bind h0
  clear h0
  have h0 := h
  clear h
  obtain ⟨_, c1, y1, c2, k1, h, rfl⟩ := bind_ok h0
  clear h0
  simp only [OkL_append] at hd
  obtain ⟨q1, q2⟩ := needAll_ok k1 hd.1
  obtain ⟨_, c3, y2, c4, k2, h0, rfl⟩ := bind_ok h
  clear h
  have h := h0
  clear h0
  simp only [OkL_append] at hd
  obtain ⟨q3, q4⟩ := need_ok k2
  have q3 := q3 hd.2.1
  obtain ⟨e2, h⟩ := chk_bind h
  obtain ⟨e3, h⟩ := chk_bind h
  obtain ⟨e4, h⟩ := chk_bind h
  obtain ⟨e5, h⟩ := chk_bind h
  obtain ⟨e6, h⟩ := chk_bind h
  obtain ⟨e7, h⟩ := chk_bind h
  obtain ⟨e8, h⟩ := chk_bind h
  obtain ⟨e9, h⟩ := chk_bind h
  obtain ⟨x9, n9, h⟩ := bump_bind h
  obtain ⟨rfl, rfl, rfl⟩ := pure_ok h
  have hnl : y2.nl = x.nl := by rw [q4, q1]
  rw [n9, hnl]
  obtain ⟨a1, a2⟩ := matchAs_ok hs0
  obtain ⟨f1, f2⟩ := matchEs_ok hs1
  obtain ⟨b1, b2⟩ := matchFs_ok hs2
  obtain ⟨t1, t2⟩ := matchGs_ok hs
  have hfin : s.Fin s.sg s.env := ⟨fun l r hr => sgFind_ok hr, fun _ _ h => h, q2⟩
  have hk := keysGe_ok e6
  refine useC_ok R.fnO R.bodyO (R.runs s.env H q3) e2 e3 (a2 _ _ (hfin.le (f1.le_trans (b1.le_trans t1)))) ?_ e5 e7 e8 e9
  unfold fitH
  rw [e4, onB_true]
  refine fitEs_of fun en he => ?_
  unfold PC.pre at he ⊢
  rcases List.mem_append.1 he with he | he
  · refine sent_fit hk e1 R.low (fun g hg => ?_) en he
    obtain ⟨m1, m2⟩ := mem_errLabs (G := c.G) hg
    rw [srcs_app, srcs_sent' hk _ R.low, look_partL, look_partL, if_pos (List.mem_append_left _ m1), if_pos (List.mem_append_left _ m2)]
    exact ⟨rfl, rfl⟩
  · rcases List.mem_append.1 he with he' | he'
    · obtain ⟨p, hp, rfl⟩ := List.mem_map.1 he'
      refine fitEnt_part (f2 _ _ (hfin.le (b1.le_trans t1)) p hp) (fun l hl => ?_)
      rw [srcs_app]
      exact List.mem_append_right _ (mem_srcs he hl)
    · rcases List.mem_append.1 he' with he2 | he2
      · obtain ⟨p, hp, rfl⟩ := List.mem_map.1 he2
        refine fitEnt_part (b2 _ _ (hfin.le t1) p hp) (fun l hl => ?_)
        rw [srcs_app]
        exact List.mem_append_right _ (mem_srcs he hl)
      · obtain ⟨p, hp, rfl⟩ := List.mem_map.1 he2
        refine fitEnt_part (t2 _ _ hfin (fun q hq => hk _ (by have := tabsLow_ok e0 q hq; omega)) p hp) (fun l hl => ?_)
        rw [srcs_app]
        exact List.mem_append_right _ (mem_srcs he hl)

end Go.Sx
