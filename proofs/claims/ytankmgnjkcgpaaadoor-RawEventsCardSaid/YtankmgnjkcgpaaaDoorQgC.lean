/- Raw: the document's Right, Line, Same. -/
import Derived.Test.YtankmgnjkcgpaaaDoorQfC
set_option linter.unusedSimpArgs false
set_option linter.unusedVariables false
set_option maxRecDepth 100000
namespace Go.Proofs.YtankmgnjkcgpaaaDoor
open Go.Sx

open RawR
def dgS (u : Nat) (s : List UInt8) : List UInt8 := if u = 0 then s else Lib.decDigits u ++ s
def sameT (k n k' n' : Int) (s s' : List UInt8) (m m' : Nat) (F F' : Ix → Int) : Bool := decide (k = k') && (decide (n = n') && (decide (s = s') && eqI m m' F F'))
def preB (k n : Int) (l m : Nat) : Bool := decide (1 ≤ k ∧ k ≤ 4 ∧ l ≤ 1024 ∧ 0 ≤ n ∧ n ≤ 9999 ∧ (k ≠ 1 → l + m = 0) ∧ (k = 1 ∨ k = 4 → n = 0))
theorem dgS_step {u : Nat} (h : u ≠ 0) (s : List UInt8) : dgS u s = dgS (u / 10) (UInt8.ofNat (48 + u % 10) :: s) := by
  unfold dgS
  rw [if_neg h]
  by_cases h10 : u < 10
  · rw [if_pos (by omega), Lib.decDigits_one h10, Nat.mod_eq_of_lt h10]; rfl
  · rw [if_neg (by omega), Lib.decDigits, dif_neg h10, List.append_assoc]; rfl
theorem dig_sub {d : Nat} (h : d < 10) : (([48, 49, 50, 51, 52, 53, 54, 55, 56, 57] : List UInt8).take (d + 1)).drop d = [UInt8.ofNat (48 + d)] := by
  have : ((List.range 10).all fun d => decide ((([48, 49, 50, 51, 52, 53, 54, 55, 56, 57] : List UInt8).take (d + 1)).drop d = [UInt8.ofNat (48 + d)])) = true := by decide +kernel
  exact of_decide_eq_true (List.all_eq_true.1 this d (List.mem_range.2 h))
theorem hex_sub {d : Nat} (h : d < 16) : (([48, 49, 50, 51, 52, 53, 54, 55, 56, 57, 97, 98, 99, 100, 101, 102] : List UInt8).take (d + 1)).drop d = [hx d] := by
  have : ((List.range 16).all fun d => decide ((([48, 49, 50, 51, 52, 53, 54, 55, 56, 57, 97, 98, 99, 100, 101, 102] : List UInt8).take (d + 1)).drop d = [hx d])) = true := by decide +kernel
  exact of_decide_eq_true (List.all_eq_true.1 this d (List.mem_range.2 h))
theorem rightV_pre (k n : Int) (l m : Nat) (F : Ix → Int) : rightV k n l m F = (preB k n l m && upR l (-1) (intsF F m)) := by
  have e0 : m = 0 → upR l (-1) (intsF F m) = true := fun h => by subst h; rfl
  unfold rightV preB
  by_cases h1 : k = 1
  · subst h1; rw [if_pos rfl]
    congr 1
    rw [Bool.eq_iff_iff]; simp; omega
  · rw [if_neg h1]
    by_cases h2 : k = 2 ∨ k = 3
    · rw [if_pos h2]
      by_cases hm : m = 0
      · rw [e0 hm, Bool.and_true, Bool.eq_iff_iff]; simp; omega
      · rw [decide_eq_false (by omega), decide_eq_false (by omega), Bool.false_and]
    · rw [if_neg h2]
      by_cases h4 : k = 4
      · rw [if_pos h4]
        by_cases hm : m = 0
        · rw [e0 hm, Bool.and_true, Bool.eq_iff_iff]; simp; omega
        · rw [decide_eq_false (by omega), decide_eq_false (by omega), Bool.false_and]
      · rw [if_neg h4, decide_eq_false (by omega), Bool.false_and]
theorem joinR_snoc (c : UInt8) (a : List UInt8) : ∀ l : List (List UInt8), l ≠ [] → joinR c (l ++ [a]) = joinR c l ++ c :: a
  | [], h => absurd rfl h
  | [b], _ => rfl
  | b :: d :: l, _ => by
    have := joinR_snoc c a (d :: l) (by simp)
    rw [List.cons_append, joinR_cons c b (by simp), this, joinR_cons c b (by simp), List.append_assoc]; rfl
theorem fg0_p0 (x : Nat) :
    isEnd (evTill Tryd.prog [] 300 (99) 900 65 [.code (bodyOf Tryd.f65)] (envOf [vN 0] Tryd.f65.ntmps) ([] ++ ([])) ⟨[.t], 80⟩) (endP ([]) (vS [48]) ([]) 115) =
    (OkL [] ∧ [(48 : UInt8)] = [(48 : UInt8)] ∧ True) := by kernel_rfl

set_option maxHeartbeats 4000000 in
theorem fg0 (x : Nat)  :
    RunsTo Tryd.prog 65 [.code (bodyOf Tryd.f65)] (envOf [vN 0] Tryd.f65.ntmps) (Sx.look ([] ++ ([]))) 80 (vS [48]) (Sx.look ([])) 115 := by
  refine runs_last baseO (Sx.Ends.of (fg0_p0 x) ⟨?oo, ?rr⟩) (by kernel_rfl) rfl (gtL (by decide)) (by decide)
  case oo =>
    refine okn
    all_goals ((try simp (disch := omega) only [SS]); first | done | omega | assumption | (simp (disch := omega) only [SS] at *; first | done | omega | assumption) | (simp_all; done))
  case rr =>
    exact ⟨rfl, trivial⟩

theorem fg1_p0 (u : Nat) :
    isMore (evTill Tryd.prog [] 300 (behind Tryd.f65 0) 900 65 [.code (bodyOf Tryd.f65)] (envOf [vN (u : Nat)] Tryd.f65.ntmps) ([] ++ ([])) ⟨[.s false, .f], 80⟩) (moreP (headOf Tryd.f65 0) ([]) Tryd.f65.ntmps ([(0, vN (u : Nat)), (3, vS ([])), (4, vS [])]) ([]) 115) =
    (OkL [((↑u : Int) == (0 : Int), false)] ∧ headOf Tryd.f65 (0 : Nat) = headOf Tryd.f65 (0 : Nat) ∧ ((↑u : Int) = (↑u : Int) ∧ ([] : List UInt8) = [] ∧ ([] : List UInt8) = []) ∧ True) := by kernel_rfl

set_option maxHeartbeats 4000000 in
theorem fg1 (u : Nat) (h : u ≠ 0) (hu : u ≤ 9223372036854775807)  (v : SV) (L' : HF) (next : RunsTo Tryd.prog 65 (headOf Tryd.f65 0) (envAt Tryd.f65.ntmps ([(0, vN (u : Nat)), (3, vS ([])), (4, vS [])])) (Sx.look ([] ++ ([]))) 80 (v) (L') 115) :
    RunsTo Tryd.prog 65 [.code (bodyOf Tryd.f65)] (envOf [vN (u : Nat)] Tryd.f65.ntmps) (Sx.look ([] ++ ([]))) 80 (v) (L') 115 := by
  refine runs_more baseO (More.of (fg1_p0 u) ⟨?oo, rfl, ?rr⟩) (by kernel_rfl) (by kernel_rfl) rfl (gtL (by decide)) (by decide) next
  case oo =>
    clear next
    refine (okc ?_ okn)
    all_goals ((try simp (disch := omega) only [SS]); first | done | omega | assumption | (simp (disch := omega) only [SS] at *; first | done | omega | assumption) | (simp_all; done))
  case rr =>
    clear next
    try simp (disch := omega) only [SS]
    repeat' apply And.intro
    all_goals first | exact True.intro | with_reducible rfl | omega | (intros; first | exact True.intro | with_reducible rfl | omega | (simp_all; done)) | (simp_all; done) | rfl

theorem fg2_p0 (u : Nat) (t : List UInt8) :
    isMore (evTill Tryd.prog [] 300 (behind Tryd.f65 0) 900 65 (headOf Tryd.f65 0) (envAt Tryd.f65.ntmps ([(0, vN (u : Nat)), (3, vS (t)), (4, vS [])])) ([] ++ ([])) ⟨[.s true, .t, .f, .s true, .s true, .s true, .t], 110⟩) (moreP (headOf Tryd.f65 0) ([]) Tryd.f65.ntmps ([(0, vN (u / 10 : Nat)), (3, vS (UInt8.ofNat (48 + u % 10) :: t)), (4, vS [])]) ([]) 115) =
    (OkL [((↑u : Int) != (0 : Int), true), (decide ((0 : Int) ≤ IntKind.i64.wrap ((↑u : Int).tmod (10 : Int) + (1 : Int)) ∧ IntKind.i64.wrap ((↑u : Int).tmod (10 : Int) + (1 : Int)) ≤ (↑(10 : Nat) : Int)), true), (decide ((0 : Int) ≤ (↑u : Int).tmod (10 : Int) ∧ (↑u : Int).tmod (10 : Int) ≤ IntKind.i64.wrap ((↑u : Int).tmod (10 : Int) + (1 : Int))), true), (decide ((List.drop ((↑u : Int).tmod (10 : Int)).toNat (List.take (IntKind.i64.wrap ((↑u : Int).tmod (10 : Int) + (1 : Int))).toNat [(48 : UInt8), (49 : UInt8), (50 : UInt8), (51 : UInt8), (52 : UInt8), (53 : UInt8), (54 : UInt8), (55 : UInt8), (56 : UInt8), (57 : UInt8)])).length + t.length ≤ (9223372036854775807 : Nat)), true)] ∧ headOf Tryd.f65 (0 : Nat) = headOf Tryd.f65 (0 : Nat) ∧ ((↑(u / (10 : Nat)) : Int) = IntKind.i64.wrap ((↑u : Int).tdiv (10 : Int)) ∧ UInt8.ofNat ((48 : Nat) + u % (10 : Nat)) :: t = List.drop ((↑u : Int).tmod (10 : Int)).toNat (List.take (IntKind.i64.wrap ((↑u : Int).tmod (10 : Int) + (1 : Int))).toNat [(48 : UInt8), (49 : UInt8), (50 : UInt8), (51 : UInt8), (52 : UInt8), (53 : UInt8), (54 : UInt8), (55 : UInt8), (56 : UInt8), (57 : UInt8)]) ++ t ∧ ([] : List UInt8) = []) ∧ True) := by kernel_rfl

set_option maxHeartbeats 4000000 in
theorem fg2 (u : Nat) (t : List UInt8) (h : u ≠ 0) (hu : u ≤ 9223372036854775807) (ht : t.length ≤ 1000)  (v : SV) (L' : HF) (next : RunsTo Tryd.prog 65 (headOf Tryd.f65 0) (envAt Tryd.f65.ntmps ([(0, vN (u / 10 : Nat)), (3, vS (UInt8.ofNat (48 + u % 10) :: t)), (4, vS [])])) (Sx.look ([] ++ ([]))) 80 (v) (L') 115) :
    RunsTo Tryd.prog 65 (headOf Tryd.f65 0) (envAt Tryd.f65.ntmps ([(0, vN (u : Nat)), (3, vS (t)), (4, vS [])])) (Sx.look ([] ++ ([]))) 80 (v) (L') 115 := by
  have h1 : ((u : Nat) : Int).tmod 10 = ((u % 10 : Nat) : Int) := by rw [Int.tmod_eq_emod_of_nonneg (by omega)]; rfl
  have h2 : ((u : Nat) : Int).tdiv 10 = ((u / 10 : Nat) : Int) := by rw [Int.tdiv_eq_ediv_of_nonneg (by omega)]; rfl
  have h3 : IntKind.i64.wrap (((u % 10 : Nat) : Int) + 1) = ((u % 10 + 1 : Nat) : Int) := by rw [wr64 (by omega)]; rfl
  have h4 : IntKind.i64.wrap ((u / 10 : Nat) : Int) = ((u / 10 : Nat) : Int) := wr64 (by omega)
  have h5 := dig_sub (show u % 10 < 10 by omega)
  refine runs_more baseO (More.of (fg2_p0 u t) ⟨?oo, rfl, ?rr⟩) (by kernel_rfl) (by kernel_rfl) rfl (gtL (by decide)) (by decide) next
  case oo =>
    clear next
    refine (okc ?_ (okc ?_ (okc ?_ (okc ?_ okn))))
    all_goals ((try simp only [h1, h2, h3, h4, Int.toNat_natCast]); first | done | rfl | omega | (simp (disch := omega) only [SS, h1, h2, h3, h4]; first | done | omega) | (simp_all; done) | (simp_all; omega))
  case rr =>
    clear next
    simp only [h1, h2, h3, h4, Int.toNat_natCast, h5]
    repeat' apply And.intro
    all_goals first | exact True.intro | with_reducible rfl | rfl

theorem fg3_p0 (t : List UInt8) :
    isEnd (evTill Tryd.prog [] 300 (99) 900 65 (headOf Tryd.f65 0) (envAt Tryd.f65.ntmps ([(0, vN (0 : Nat)), (3, vS (t)), (4, vS [])])) ([] ++ ([])) ⟨[.f, .s true], 110⟩) (endP ([]) (vS t) ([]) 115) =
    (OkL [(decide ((0 : Nat) + t.length ≤ (9223372036854775807 : Nat)), true)] ∧ t = [] ++ t ∧ True) := by kernel_rfl

set_option maxHeartbeats 4000000 in
theorem fg3 (t : List UInt8) (ht : t.length ≤ 1000)  :
    RunsTo Tryd.prog 65 (headOf Tryd.f65 0) (envAt Tryd.f65.ntmps ([(0, vN (0 : Nat)), (3, vS (t)), (4, vS [])])) (Sx.look ([] ++ ([]))) 80 (vS t) (Sx.look ([])) 115 := by
  refine runs_last baseO (Sx.Ends.of (fg3_p0 t) ⟨?oo, ?rr⟩) (by kernel_rfl) rfl (gtL (by decide)) (by decide)
  case oo =>
    refine (okc ?_ okn)
    all_goals ((try simp (disch := omega) only [SS]); first | done | omega | assumption | (simp (disch := omega) only [SS] at *; first | done | omega | assumption) | (simp_all; done))
  case rr =>
    exact ⟨rfl, trivial⟩

theorem fgT (n : Int) (h0 : 0 ≤ n) (hn : n ≤ 9223372036854775807) : RunsTo Tryd.prog 65 [.code (bodyOf Tryd.f65)] (envOf [vN n] Tryd.f65.ntmps) (Sx.look ([] ++ ([]))) 80 (vS (Lib.itoa n)) (Sx.look []) 115 := by
  obtain ⟨u, rfl⟩ : ∃ u : Nat, n = (u : Int) := ⟨n.toNat, by omega⟩
  have hu : u ≤ 9223372036854775807 := by omega
  have hi : Lib.itoa (u : Int) = Lib.decDigits u := if_neg (by omega)
  rw [hi]
  by_cases h : u = 0
  · subst h
    rw [Lib.decDigits_one (show 0 < 10 by omega)]
    exact fg0 0
  refine fg1 u h hu _ _ ?_
  have hl := Lib.nDigits_le20 u (by omega)
  suffices q : ∀ (j u : Nat) (t : List UInt8), u ≤ 9223372036854775807 → u ≤ 10 ^ j → t.length + j ≤ 900 → RunsTo Tryd.prog 65 (headOf Tryd.f65 0) (envAt Tryd.f65.ntmps ([(0, vN (u : Nat)), (3, vS (t)), (4, vS [])])) (Sx.look ([] ++ ([]))) 80 (vS (dgS u t)) (Sx.look []) 115 from by
    have := q 20 u [] hu (by omega) (by simp)
    rw [show dgS u [] = Lib.decDigits u by rw [dgS, if_neg h, List.append_nil]] at this
    exact this
  clear h hu hi hl h0 hn u
  intro j
  induction j with
  | zero =>
    intro u t hu h1 hl
    by_cases h : u = 0
    · subst h; exact fg3 t (by omega)
    · obtain rfl : u = 1 := by omega
      rw [dgS_step (by decide)]
      exact fg2 1 t (by decide) hu (by omega) _ _ (fg3 _ (by simp; omega))
  | succ j ih =>
    intro u t hu h1 hl
    by_cases h : u = 0
    · subst h; exact fg3 t (by omega)
    · rw [dgS_step h]
      exact fg2 u t h hu (by omega) _ _ (ih (u / 10) _ (by omega) (by rw [Nat.pow_succ] at h1; omega) (by simp; omega))
def fgP : PC := { args := [.v (.vi .i64 0)], heap := [], gs := [], G := 24, tp := 194, n := 80, n' := 115, cond := fun e => decide (0 ≤ eI e 0 []) && decide (eI e 0 [] ≤ 9223372036854775807), v := fun e => vS (Lib.itoa (eI e 0 [])), post := fun e => [] }
theorem fgP_pc : PC.Runs Tryd.prog 65 Tryd.f65 (bodyOf Tryd.f65) fgP := ⟨Tryd.func65, by kernel_rfl, (fun g hg => by first | (cases hg; done) | (revert g; show ∀ g ∈ ([] : List Nat), g < 24; decide)), fun e H hc => by
  have hc : (decide (0 ≤ eI e 0 []) && decide (eI e 0 [] ≤ 9223372036854775807)) = true := hc
  try simp only [Bool.and_eq_true, decide_eq_true_eq, Nat.beq_eq] at hc
  exact fgT (eI e 0 []) hc.1 hc.2⟩
theorem rr0_p0 (k n : Int) (b : List UInt8) (m M : Nat) (F : Ix → Int) :
    isEnd (evTill Tryd.prog [] 300 (99) 900 35 [.code (bodyOf Tryd.f35)] (envOf [.agg (.tc (.vi .i64 fun _ => k) (.tc (.vi .i64 fun _ => n) (.tc (.vs fun _ => b) (.tc (.vl 62 (fun _ => 0) 1 [] (fun _ => m)) .t0))))] Tryd.f35.ntmps) ([⟨62, false, none, 1, .ta M (.vi .i64 F)⟩] ++ ([])) ⟨[.s false, .s false, .s false, .s false, .s false, .s false, .s true, .s true], 80⟩) (endP ([]) (vB false) ([]) 115) =
    (OkL [(decide (k < (1 : Int)), false), (decide (k > (4 : Int)), false), (decide ((↑b.length : Int) > (1024 : Int)), false), (decide (n < (0 : Int)), false), (decide (n > (9999 : Int)), false), (k != (1 : Int), false), (k == (1 : Int), true), (n != (0 : Int), true)] ∧ false = false ∧ True) := by kernel_rfl
theorem rr0_p1 (k n : Int) (b : List UInt8) (m M : Nat) (F : Ix → Int) :
    isEnd (evTill Tryd.prog [] 300 (99) 900 35 [.code (bodyOf Tryd.f35)] (envOf [.agg (.tc (.vi .i64 fun _ => k) (.tc (.vi .i64 fun _ => n) (.tc (.vs fun _ => b) (.tc (.vl 62 (fun _ => 0) 1 [] (fun _ => m)) .t0))))] Tryd.f35.ntmps) ([⟨62, false, none, 1, .ta M (.vi .i64 F)⟩] ++ ([])) ⟨[.s false, .s false, .s false, .s false, .s false, .s true, .s false, .s false, .s true, .s true], 80⟩) (endP ([]) (vB false) ([]) 115) =
    (OkL [(decide (k < (1 : Int)), false), (decide (k > (4 : Int)), false), (decide ((↑b.length : Int) > (1024 : Int)), false), (decide (n < (0 : Int)), false), (decide (n > (9999 : Int)), false), (k != (1 : Int), true), (decide (IntKind.i64.wrap ((↑b.length : Int) + (↑m : Int)) > (0 : Int)), false), (k == (1 : Int), false), (k == (4 : Int), true), (n != (0 : Int), true)] ∧ false = false ∧ True) := by kernel_rfl
theorem rr0_p2 (k n : Int) (b : List UInt8) (m M : Nat) (F : Ix → Int) :
    isEnd (evTill Tryd.prog [] 300 (99) 900 35 [.code (bodyOf Tryd.f35)] (envOf [.agg (.tc (.vi .i64 fun _ => k) (.tc (.vi .i64 fun _ => n) (.tc (.vs fun _ => b) (.tc (.vl 62 (fun _ => 0) 1 [] (fun _ => m)) .t0))))] Tryd.f35.ntmps) ([⟨62, false, none, 1, .ta M (.vi .i64 F)⟩] ++ ([])) ⟨[.s false, .s false, .s false, .s false, .s false, .s true, .s true], 80⟩) (endP ([]) (vB false) ([]) 115) =
    (OkL [(decide (k < (1 : Int)), false), (decide (k > (4 : Int)), false), (decide ((↑b.length : Int) > (1024 : Int)), false), (decide (n < (0 : Int)), false), (decide (n > (9999 : Int)), false), (k != (1 : Int), true), (decide (IntKind.i64.wrap ((↑b.length : Int) + (↑m : Int)) > (0 : Int)), true)] ∧ false = false ∧ True) := by kernel_rfl
theorem rr0_p3 (k n : Int) (b : List UInt8) (m M : Nat) (F : Ix → Int) :
    isEnd (evTill Tryd.prog [] 300 (99) 900 35 [.code (bodyOf Tryd.f35)] (envOf [.agg (.tc (.vi .i64 fun _ => k) (.tc (.vi .i64 fun _ => n) (.tc (.vs fun _ => b) (.tc (.vl 62 (fun _ => 0) 1 [] (fun _ => m)) .t0))))] Tryd.f35.ntmps) ([⟨62, false, none, 1, .ta M (.vi .i64 F)⟩] ++ ([])) ⟨[.s false, .s false, .s false, .s false, .s true], 80⟩) (endP ([]) (vB false) ([]) 115) =
    (OkL [(decide (k < (1 : Int)), false), (decide (k > (4 : Int)), false), (decide ((↑b.length : Int) > (1024 : Int)), false), (decide (n < (0 : Int)), false), (decide (n > (9999 : Int)), true)] ∧ false = false ∧ True) := by kernel_rfl
theorem rr0_p4 (k n : Int) (b : List UInt8) (m M : Nat) (F : Ix → Int) :
    isEnd (evTill Tryd.prog [] 300 (99) 900 35 [.code (bodyOf Tryd.f35)] (envOf [.agg (.tc (.vi .i64 fun _ => k) (.tc (.vi .i64 fun _ => n) (.tc (.vs fun _ => b) (.tc (.vl 62 (fun _ => 0) 1 [] (fun _ => m)) .t0))))] Tryd.f35.ntmps) ([⟨62, false, none, 1, .ta M (.vi .i64 F)⟩] ++ ([])) ⟨[.s false, .s false, .s false, .s true], 80⟩) (endP ([]) (vB false) ([]) 115) =
    (OkL [(decide (k < (1 : Int)), false), (decide (k > (4 : Int)), false), (decide ((↑b.length : Int) > (1024 : Int)), false), (decide (n < (0 : Int)), true)] ∧ false = false ∧ True) := by kernel_rfl
theorem rr0_p5 (k n : Int) (b : List UInt8) (m M : Nat) (F : Ix → Int) :
    isEnd (evTill Tryd.prog [] 300 (99) 900 35 [.code (bodyOf Tryd.f35)] (envOf [.agg (.tc (.vi .i64 fun _ => k) (.tc (.vi .i64 fun _ => n) (.tc (.vs fun _ => b) (.tc (.vl 62 (fun _ => 0) 1 [] (fun _ => m)) .t0))))] Tryd.f35.ntmps) ([⟨62, false, none, 1, .ta M (.vi .i64 F)⟩] ++ ([])) ⟨[.s false, .s false, .s true], 80⟩) (endP ([]) (vB false) ([]) 115) =
    (OkL [(decide (k < (1 : Int)), false), (decide (k > (4 : Int)), false), (decide ((↑b.length : Int) > (1024 : Int)), true)] ∧ false = false ∧ True) := by kernel_rfl
theorem rr0_p6 (k n : Int) (b : List UInt8) (m M : Nat) (F : Ix → Int) :
    isEnd (evTill Tryd.prog [] 300 (99) 900 35 [.code (bodyOf Tryd.f35)] (envOf [.agg (.tc (.vi .i64 fun _ => k) (.tc (.vi .i64 fun _ => n) (.tc (.vs fun _ => b) (.tc (.vl 62 (fun _ => 0) 1 [] (fun _ => m)) .t0))))] Tryd.f35.ntmps) ([⟨62, false, none, 1, .ta M (.vi .i64 F)⟩] ++ ([])) ⟨[.s false, .s true], 80⟩) (endP ([]) (vB false) ([]) 115) =
    (OkL [(decide (k < (1 : Int)), false), (decide (k > (4 : Int)), true)] ∧ false = false ∧ True) := by kernel_rfl
theorem rr0_p7 (k n : Int) (b : List UInt8) (m M : Nat) (F : Ix → Int) :
    isEnd (evTill Tryd.prog [] 300 (99) 900 35 [.code (bodyOf Tryd.f35)] (envOf [.agg (.tc (.vi .i64 fun _ => k) (.tc (.vi .i64 fun _ => n) (.tc (.vs fun _ => b) (.tc (.vl 62 (fun _ => 0) 1 [] (fun _ => m)) .t0))))] Tryd.f35.ntmps) ([⟨62, false, none, 1, .ta M (.vi .i64 F)⟩] ++ ([])) ⟨[.s true], 80⟩) (endP ([]) (vB false) ([]) 115) =
    (OkL [(decide (k < (1 : Int)), true)] ∧ false = false ∧ True) := by kernel_rfl

set_option maxHeartbeats 4000000 in
theorem rr0 (k n : Int) (b : List UInt8) (m M : Nat) (F : Ix → Int) (h : preB k n b.length m = false) (hM : m ≤ M) (hm : m ≤ 100000) (hb : b.length ≤ 100000)  :
    RunsTo Tryd.prog 35 [.code (bodyOf Tryd.f35)] (envOf [.agg (.tc (.vi .i64 fun _ => k) (.tc (.vi .i64 fun _ => n) (.tc (.vs fun _ => b) (.tc (.vl 62 (fun _ => 0) 1 [] (fun _ => m)) .t0))))] Tryd.f35.ntmps) (Sx.look ([⟨62, false, none, 1, .ta M (.vi .i64 F)⟩] ++ ([]))) 80 (vB false) (Sx.look ([])) 115 := by
  have hw : IntKind.i64.wrap ((b.length : Int) + (m : Int)) = (b.length : Int) + (m : Int) := wr64 (by omega)
  refine bcase (c := (decide (k < (1 : Int)))) (fun gg0 => ?_) (fun gg0 => ?_)
  · refine bcase (c := (decide (k > (4 : Int)))) (fun gg1 => ?_) (fun gg1 => ?_)
    · refine bcase (c := (decide ((↑b.length : Int) > (1024 : Int)))) (fun gg2 => ?_) (fun gg2 => ?_)
      · refine bcase (c := (decide (n < (0 : Int)))) (fun gg3 => ?_) (fun gg3 => ?_)
        · refine bcase (c := (decide (n > (9999 : Int)))) (fun gg4 => ?_) (fun gg4 => ?_)
          · refine bcase (c := (k != (1 : Int))) (fun gg5 => ?_) (fun gg5 => ?_)
            · refine runs_last baseO (Sx.Ends.of (rr0_p0 k n b m M F) ⟨?oo, ?rr⟩) (by kernel_rfl) rfl (gtL (by decide)) (by decide)
              case oo =>
                refine (okc gg0 (okc gg1 (okc gg2 (okc gg3 (okc gg4 (okc gg5 (okc ?_ (okc ?_ okn))))))))
                all_goals ((try simp only [hw]); first | done | rfl | omega | (simp (disch := omega) only [SS, hw]; first | done | omega) | (simp only [SS, hw, preB] at *; first | omega | (simp_all; done)) | (simp_all [preB]; done) | (simp_all [preB]; omega))
              case rr =>
                try simp (disch := omega) only [SS]
                repeat' apply And.intro
                all_goals first | exact True.intro | with_reducible rfl | omega | (intros; first | exact True.intro | with_reducible rfl | omega | (simp_all; done)) | (simp_all; done) | rfl
            · refine bcase (c := (decide (IntKind.i64.wrap ((↑b.length : Int) + (↑m : Int)) > (0 : Int)))) (fun gg6 => ?_) (fun gg6 => ?_)
              · refine runs_last baseO (Sx.Ends.of (rr0_p1 k n b m M F) ⟨?oo, ?rr⟩) (by kernel_rfl) rfl (gtL (by decide)) (by decide)
                case oo =>
                  refine (okc gg0 (okc gg1 (okc gg2 (okc gg3 (okc gg4 (okc gg5 (okc gg6 (okc ?_ (okc ?_ (okc ?_ okn))))))))))
                  all_goals ((try simp only [hw]); first | done | rfl | omega | (simp (disch := omega) only [SS, hw]; first | done | omega) | (simp only [SS, hw, preB] at *; first | omega | (simp_all; done)) | (simp_all [preB]; done) | (simp_all [preB]; omega))
                case rr =>
                  try simp (disch := omega) only [SS]
                  repeat' apply And.intro
                  all_goals first | exact True.intro | with_reducible rfl | omega | (intros; first | exact True.intro | with_reducible rfl | omega | (simp_all; done)) | (simp_all; done) | rfl
              · refine runs_last baseO (Sx.Ends.of (rr0_p2 k n b m M F) ⟨?oo, ?rr⟩) (by kernel_rfl) rfl (gtL (by decide)) (by decide)
                case oo =>
                  refine (okc gg0 (okc gg1 (okc gg2 (okc gg3 (okc gg4 (okc gg5 (okc gg6 okn)))))))
                  all_goals ((try simp only [hw]); first | done | rfl | omega | (simp (disch := omega) only [SS, hw]; first | done | omega) | (simp only [SS, hw, preB] at *; first | omega | (simp_all; done)) | (simp_all [preB]; done) | (simp_all [preB]; omega))
                case rr =>
                  try simp (disch := omega) only [SS]
                  repeat' apply And.intro
                  all_goals first | exact True.intro | with_reducible rfl | omega | (intros; first | exact True.intro | with_reducible rfl | omega | (simp_all; done)) | (simp_all; done) | rfl
          · refine runs_last baseO (Sx.Ends.of (rr0_p3 k n b m M F) ⟨?oo, ?rr⟩) (by kernel_rfl) rfl (gtL (by decide)) (by decide)
            case oo =>
              refine (okc gg0 (okc gg1 (okc gg2 (okc gg3 (okc gg4 okn)))))
              all_goals ((try simp only [hw]); first | done | rfl | omega | (simp (disch := omega) only [SS, hw]; first | done | omega) | (simp only [SS, hw, preB] at *; first | omega | (simp_all; done)) | (simp_all [preB]; done) | (simp_all [preB]; omega))
            case rr =>
              try simp (disch := omega) only [SS]
              repeat' apply And.intro
              all_goals first | exact True.intro | with_reducible rfl | omega | (intros; first | exact True.intro | with_reducible rfl | omega | (simp_all; done)) | (simp_all; done) | rfl
        · refine runs_last baseO (Sx.Ends.of (rr0_p4 k n b m M F) ⟨?oo, ?rr⟩) (by kernel_rfl) rfl (gtL (by decide)) (by decide)
          case oo =>
            refine (okc gg0 (okc gg1 (okc gg2 (okc gg3 okn))))
            all_goals ((try simp only [hw]); first | done | rfl | omega | (simp (disch := omega) only [SS, hw]; first | done | omega) | (simp only [SS, hw, preB] at *; first | omega | (simp_all; done)) | (simp_all [preB]; done) | (simp_all [preB]; omega))
          case rr =>
            try simp (disch := omega) only [SS]
            repeat' apply And.intro
            all_goals first | exact True.intro | with_reducible rfl | omega | (intros; first | exact True.intro | with_reducible rfl | omega | (simp_all; done)) | (simp_all; done) | rfl
      · refine runs_last baseO (Sx.Ends.of (rr0_p5 k n b m M F) ⟨?oo, ?rr⟩) (by kernel_rfl) rfl (gtL (by decide)) (by decide)
        case oo =>
          refine (okc gg0 (okc gg1 (okc gg2 okn)))
          all_goals ((try simp only [hw]); first | done | rfl | omega | (simp (disch := omega) only [SS, hw]; first | done | omega) | (simp only [SS, hw, preB] at *; first | omega | (simp_all; done)) | (simp_all [preB]; done) | (simp_all [preB]; omega))
        case rr =>
          try simp (disch := omega) only [SS]
          repeat' apply And.intro
          all_goals first | exact True.intro | with_reducible rfl | omega | (intros; first | exact True.intro | with_reducible rfl | omega | (simp_all; done)) | (simp_all; done) | rfl
    · refine runs_last baseO (Sx.Ends.of (rr0_p6 k n b m M F) ⟨?oo, ?rr⟩) (by kernel_rfl) rfl (gtL (by decide)) (by decide)
      case oo =>
        refine (okc gg0 (okc gg1 okn))
        all_goals ((try simp only [hw]); first | done | rfl | omega | (simp (disch := omega) only [SS, hw]; first | done | omega) | (simp only [SS, hw, preB] at *; first | omega | (simp_all; done)) | (simp_all [preB]; done) | (simp_all [preB]; omega))
      case rr =>
        try simp (disch := omega) only [SS]
        repeat' apply And.intro
        all_goals first | exact True.intro | with_reducible rfl | omega | (intros; first | exact True.intro | with_reducible rfl | omega | (simp_all; done)) | (simp_all; done) | rfl
  · refine runs_last baseO (Sx.Ends.of (rr0_p7 k n b m M F) ⟨?oo, ?rr⟩) (by kernel_rfl) rfl (gtL (by decide)) (by decide)
    case oo =>
      refine (okc gg0 okn)
      all_goals ((try simp only [hw]); first | done | rfl | omega | (simp (disch := omega) only [SS, hw]; first | done | omega) | (simp only [SS, hw, preB] at *; first | omega | (simp_all; done)) | (simp_all [preB]; done) | (simp_all [preB]; omega))
    case rr =>
      try simp (disch := omega) only [SS]
      repeat' apply And.intro
      all_goals first | exact True.intro | with_reducible rfl | omega | (intros; first | exact True.intro | with_reducible rfl | omega | (simp_all; done)) | (simp_all; done) | rfl

theorem rr1_p0 (k n : Int) (b : List UInt8) (m M : Nat) (F : Ix → Int) :
    isMore (evTill Tryd.prog [] 300 (behind Tryd.f35 0) 900 35 [.code (bodyOf Tryd.f35)] (envOf [.agg (.tc (.vi .i64 fun _ => k) (.tc (.vi .i64 fun _ => n) (.tc (.vs fun _ => b) (.tc (.vl 62 (fun _ => 0) 1 [] (fun _ => m)) .t0))))] Tryd.f35.ntmps) ([⟨62, false, none, 1, .ta M (.vi .i64 F)⟩] ++ ([])) ⟨[.s false, .s false, .s false, .s false, .s false, .s false, .s true, .s false], 80⟩) (moreP (headOf Tryd.f35 0) ([((101 : Nat), Rn.to (80 : Nat))]) Tryd.f35.ntmps ([(1, vP 101), (3, vN (-1)), (59, vL 62 1 m), (60, vN m), (61, vN (0 : Nat))]) ([⟨101, true, none, 139000004, (.tc (.vi .i64 fun _ => k) (.tc (.vi .i64 fun _ => n) (.tc (.vs fun _ => b) (.tc (.vl 62 (fun _ => 0) 1 [] (fun _ => m)) .t0))))⟩]) 115) =
    (OkL [(decide (k < (1 : Int)), false), (decide (k > (4 : Int)), false), (decide ((↑b.length : Int) > (1024 : Int)), false), (decide (n < (0 : Int)), false), (decide (n > (9999 : Int)), false), (k != (1 : Int), false), (k == (1 : Int), true), (n != (0 : Int), false)] ∧ headOf Tryd.f35 (0 : Nat) = headOf Tryd.f35 (0 : Nat) ∧ ((0 : Nat) = (0 : Nat) ∧ (-1 : Int) = (-1 : Int) ∧ ((0 : Nat) = (0 : Nat) ∧ m = m) ∧ (↑m : Int) = (↑m : Int) ∧ (↑(0 : Nat) : Int) = (0 : Int)) ∧ k = k ∧ n = n ∧ b = b ∧ (0 : Nat) = (0 : Nat) ∧ m = m) := by kernel_rfl
theorem rr1_p1 (k n : Int) (b : List UInt8) (m M : Nat) (F : Ix → Int) :
    isMore (evTill Tryd.prog [] 300 (behind Tryd.f35 0) 900 35 [.code (bodyOf Tryd.f35)] (envOf [.agg (.tc (.vi .i64 fun _ => k) (.tc (.vi .i64 fun _ => n) (.tc (.vs fun _ => b) (.tc (.vl 62 (fun _ => 0) 1 [] (fun _ => m)) .t0))))] Tryd.f35.ntmps) ([⟨62, false, none, 1, .ta M (.vi .i64 F)⟩] ++ ([])) ⟨[.s false, .s false, .s false, .s false, .s false, .s true, .s false, .s false, .s false], 80⟩) (moreP (headOf Tryd.f35 0) ([((101 : Nat), Rn.to (80 : Nat))]) Tryd.f35.ntmps ([(1, vP 101), (3, vN (-1)), (59, vL 62 1 m), (60, vN m), (61, vN (0 : Nat))]) ([⟨101, true, none, 139000004, (.tc (.vi .i64 fun _ => k) (.tc (.vi .i64 fun _ => n) (.tc (.vs fun _ => b) (.tc (.vl 62 (fun _ => 0) 1 [] (fun _ => m)) .t0))))⟩]) 115) =
    (OkL [(decide (k < (1 : Int)), false), (decide (k > (4 : Int)), false), (decide ((↑b.length : Int) > (1024 : Int)), false), (decide (n < (0 : Int)), false), (decide (n > (9999 : Int)), false), (k != (1 : Int), true), (decide (IntKind.i64.wrap ((↑b.length : Int) + (↑m : Int)) > (0 : Int)), false), (k == (1 : Int), false), (k == (4 : Int), false)] ∧ headOf Tryd.f35 (0 : Nat) = headOf Tryd.f35 (0 : Nat) ∧ ((0 : Nat) = (0 : Nat) ∧ (-1 : Int) = (-1 : Int) ∧ ((0 : Nat) = (0 : Nat) ∧ m = m) ∧ (↑m : Int) = (↑m : Int) ∧ (↑(0 : Nat) : Int) = (0 : Int)) ∧ k = k ∧ n = n ∧ b = b ∧ (0 : Nat) = (0 : Nat) ∧ m = m) := by kernel_rfl
theorem rr1_p2 (k n : Int) (b : List UInt8) (m M : Nat) (F : Ix → Int) :
    isMore (evTill Tryd.prog [] 300 (behind Tryd.f35 0) 900 35 [.code (bodyOf Tryd.f35)] (envOf [.agg (.tc (.vi .i64 fun _ => k) (.tc (.vi .i64 fun _ => n) (.tc (.vs fun _ => b) (.tc (.vl 62 (fun _ => 0) 1 [] (fun _ => m)) .t0))))] Tryd.f35.ntmps) ([⟨62, false, none, 1, .ta M (.vi .i64 F)⟩] ++ ([])) ⟨[.s false, .s false, .s false, .s false, .s false, .s true, .s false, .s false, .s true, .s false], 80⟩) (moreP (headOf Tryd.f35 0) ([((101 : Nat), Rn.to (80 : Nat))]) Tryd.f35.ntmps ([(1, vP 101), (3, vN (-1)), (59, vL 62 1 m), (60, vN m), (61, vN (0 : Nat))]) ([⟨101, true, none, 139000004, (.tc (.vi .i64 fun _ => k) (.tc (.vi .i64 fun _ => n) (.tc (.vs fun _ => b) (.tc (.vl 62 (fun _ => 0) 1 [] (fun _ => m)) .t0))))⟩]) 115) =
    (OkL [(decide (k < (1 : Int)), false), (decide (k > (4 : Int)), false), (decide ((↑b.length : Int) > (1024 : Int)), false), (decide (n < (0 : Int)), false), (decide (n > (9999 : Int)), false), (k != (1 : Int), true), (decide (IntKind.i64.wrap ((↑b.length : Int) + (↑m : Int)) > (0 : Int)), false), (k == (1 : Int), false), (k == (4 : Int), true), (n != (0 : Int), false)] ∧ headOf Tryd.f35 (0 : Nat) = headOf Tryd.f35 (0 : Nat) ∧ ((0 : Nat) = (0 : Nat) ∧ (-1 : Int) = (-1 : Int) ∧ ((0 : Nat) = (0 : Nat) ∧ m = m) ∧ (↑m : Int) = (↑m : Int) ∧ (↑(0 : Nat) : Int) = (0 : Int)) ∧ k = k ∧ n = n ∧ b = b ∧ (0 : Nat) = (0 : Nat) ∧ m = m) := by kernel_rfl

set_option maxHeartbeats 4000000 in
theorem rr1 (k n : Int) (b : List UInt8) (m M : Nat) (F : Ix → Int) (h : preB k n b.length m = true) (hM : m ≤ M) (hm : m ≤ 100000) (hb : b.length ≤ 100000)  (v : SV) (L' : HF) (next : RunsTo Tryd.prog 35 (headOf Tryd.f35 0) (envAt Tryd.f35.ntmps ([(1, vP 101), (3, vN (-1)), (59, vL 62 1 m), (60, vN m), (61, vN (0 : Nat))])) (Sx.look ([⟨62, false, none, 1, .ta M (.vi .i64 F)⟩] ++ ([⟨101, true, none, 139000004, (.tc (.vi .i64 fun _ => k) (.tc (.vi .i64 fun _ => n) (.tc (.vs fun _ => b) (.tc (.vl 62 (fun _ => 0) 1 [] (fun _ => m)) .t0))))⟩]))) 80 (v) (L') 115) :
    RunsTo Tryd.prog 35 [.code (bodyOf Tryd.f35)] (envOf [.agg (.tc (.vi .i64 fun _ => k) (.tc (.vi .i64 fun _ => n) (.tc (.vs fun _ => b) (.tc (.vl 62 (fun _ => 0) 1 [] (fun _ => m)) .t0))))] Tryd.f35.ntmps) (Sx.look ([⟨62, false, none, 1, .ta M (.vi .i64 F)⟩] ++ ([]))) 80 (v) (L') 115 := by
  have hw : IntKind.i64.wrap ((b.length : Int) + (m : Int)) = (b.length : Int) + (m : Int) := wr64 (by omega)
  refine bcase (c := (k != (1 : Int))) (fun gg0 => ?_) (fun gg0 => ?_)
  · refine runs_more baseO (More.of (rr1_p0 k n b m M F) ⟨?oo, rfl, ?rr⟩) (by kernel_rfl) (by kernel_rfl) rfl (gtL (by decide)) (by decide) next
    case oo =>
      clear next
      refine (okc ?_ (okc ?_ (okc ?_ (okc ?_ (okc ?_ (okc gg0 (okc ?_ (okc ?_ okn))))))))
      all_goals ((try simp only [hw]); first | done | rfl | omega | (simp (disch := omega) only [SS, hw]; first | done | omega) | (simp only [SS, hw, preB] at *; first | omega | (simp_all; done)) | (simp_all [preB]; done) | (simp_all [preB]; omega))
    case rr =>
      clear next
      try simp (disch := omega) only [SS]
      repeat' apply And.intro
      all_goals first | exact True.intro | with_reducible rfl | omega | (intros; first | exact True.intro | with_reducible rfl | omega | (simp_all; done)) | (simp_all; done) | rfl
  · refine bcase (c := (k == (4 : Int))) (fun gg1 => ?_) (fun gg1 => ?_)
    · refine runs_more baseO (More.of (rr1_p1 k n b m M F) ⟨?oo, rfl, ?rr⟩) (by kernel_rfl) (by kernel_rfl) rfl (gtL (by decide)) (by decide) next
      case oo =>
        clear next
        refine (okc ?_ (okc ?_ (okc ?_ (okc ?_ (okc ?_ (okc gg0 (okc ?_ (okc ?_ (okc gg1 okn)))))))))
        all_goals ((try simp only [hw]); first | done | rfl | omega | (simp (disch := omega) only [SS, hw]; first | done | omega) | (simp only [SS, hw, preB] at *; first | omega | (simp_all; done)) | (simp_all [preB]; done) | (simp_all [preB]; omega))
      case rr =>
        clear next
        try simp (disch := omega) only [SS]
        repeat' apply And.intro
        all_goals first | exact True.intro | with_reducible rfl | omega | (intros; first | exact True.intro | with_reducible rfl | omega | (simp_all; done)) | (simp_all; done) | rfl
    · refine runs_more baseO (More.of (rr1_p2 k n b m M F) ⟨?oo, rfl, ?rr⟩) (by kernel_rfl) (by kernel_rfl) rfl (gtL (by decide)) (by decide) next
      case oo =>
        clear next
        refine (okc ?_ (okc ?_ (okc ?_ (okc ?_ (okc ?_ (okc gg0 (okc ?_ (okc ?_ (okc gg1 (okc ?_ okn))))))))))
        all_goals ((try simp only [hw]); first | done | rfl | omega | (simp (disch := omega) only [SS, hw]; first | done | omega) | (simp only [SS, hw, preB] at *; first | omega | (simp_all; done)) | (simp_all [preB]; done) | (simp_all [preB]; omega))
      case rr =>
        clear next
        try simp (disch := omega) only [SS]
        repeat' apply And.intro
        all_goals first | exact True.intro | with_reducible rfl | omega | (intros; first | exact True.intro | with_reducible rfl | omega | (simp_all; done)) | (simp_all; done) | rfl

theorem rr2_p0 (k n : Int) (b : List UInt8) (m M : Nat) (F : Ix → Int) (p x : Int) (i : Nat) :
    isMore (evTill Tryd.prog [] 300 (behind Tryd.f35 0) 900 35 (headOf Tryd.f35 0) (envAt Tryd.f35.ntmps ([(1, vP 101), (3, vN (p)), (59, vL 62 1 m), (60, vN m), (61, vN (i : Nat))])) ([⟨62, false, none, 1, .ta M (.vi .i64 F)⟩] ++ ([⟨101, true, none, 139000004, (.tc (.vi .i64 fun _ => k) (.tc (.vi .i64 fun _ => n) (.tc (.vs fun _ => b) (.tc (.vl 62 (fun _ => 0) 1 [] (fun _ => m)) .t0))))⟩])) ⟨[.s true, .s true, .s true, .s true, .s false, .s false], 110⟩) (moreP (headOf Tryd.f35 0) ([]) Tryd.f35.ntmps ([(1, vP 101), (3, vN (x)), (59, vL 62 1 m), (60, vN m), (61, vN (i + 1 : Nat))]) ([⟨101, true, none, 139000004, (.tc (.vi .i64 fun _ => k) (.tc (.vi .i64 fun _ => n) (.tc (.vs fun _ => b) (.tc (.vl 62 (fun _ => 0) 1 [] (fun _ => m)) .t0))))⟩]) 115) =
    (OkL [(decide ((↑i : Int) < (↑m : Int)), true), (decide ((0 : Int) ≤ (↑i : Int) ∧ (↑i : Int) < (↑m : Int)), true), (((0 : Nat) + (↑i : Int).toNat).blt M, true), (((0 : Nat) + (↑i : Int).toNat).blt M, true), (decide (F [(0 : Nat) + (↑i : Int).toNat] ≤ p), false), (decide (F [(0 : Nat) + (↑i : Int).toNat] ≥ (↑b.length : Int)), false)] ∧ headOf Tryd.f35 (0 : Nat) = headOf Tryd.f35 (0 : Nat) ∧ ((0 : Nat) = (0 : Nat) ∧ x = F [(0 : Nat) + (↑i : Int).toNat] ∧ ((0 : Nat) = (0 : Nat) ∧ m = m) ∧ (↑m : Int) = (↑m : Int) ∧ (↑(i + (1 : Nat)) : Int) = IntKind.i64.wrap ((↑i : Int) + (1 : Int))) ∧ k = k ∧ n = n ∧ b = b ∧ (0 : Nat) = (0 : Nat) ∧ m = m) := by kernel_rfl

set_option maxHeartbeats 4000000 in
theorem rr2 (k n : Int) (b : List UInt8) (m M : Nat) (F : Ix → Int) (p x : Int) (i : Nat) (hk : p < x ∧ x < b.length) (hi : i < m) (hx : F [i] = x) (hM : m ≤ M) (hm : m ≤ 100000) (hb : b.length ≤ 100000)  (v : SV) (L' : HF) (next : RunsTo Tryd.prog 35 (headOf Tryd.f35 0) (envAt Tryd.f35.ntmps ([(1, vP 101), (3, vN (x)), (59, vL 62 1 m), (60, vN m), (61, vN (i + 1 : Nat))])) (Sx.look ([⟨62, false, none, 1, .ta M (.vi .i64 F)⟩] ++ ([⟨101, true, none, 139000004, (.tc (.vi .i64 fun _ => k) (.tc (.vi .i64 fun _ => n) (.tc (.vs fun _ => b) (.tc (.vl 62 (fun _ => 0) 1 [] (fun _ => m)) .t0))))⟩]))) 80 (v) (L') 115) :
    RunsTo Tryd.prog 35 (headOf Tryd.f35 0) (envAt Tryd.f35.ntmps ([(1, vP 101), (3, vN (p)), (59, vL 62 1 m), (60, vN m), (61, vN (i : Nat))])) (Sx.look ([⟨62, false, none, 1, .ta M (.vi .i64 F)⟩] ++ ([⟨101, true, none, 139000004, (.tc (.vi .i64 fun _ => k) (.tc (.vi .i64 fun _ => n) (.tc (.vs fun _ => b) (.tc (.vl 62 (fun _ => 0) 1 [] (fun _ => m)) .t0))))⟩]))) 80 (v) (L') 115 := by
  have hw : IntKind.i64.wrap ((i : Int) + 1) = ((i + 1 : Nat) : Int) := by rw [wr64 (by omega)]; rfl
  have hi0 : 0 + ((i : Nat) : Int).toNat = i := by simp
  refine runs_more baseO (More.of (rr2_p0 k n b m M F p x i) ⟨?oo, rfl, ?rr⟩) (by kernel_rfl) (by kernel_rfl) rfl (gtL (by decide)) (by decide) next
  case oo =>
    clear next
    refine (okc ?_ (okc ?_ (okc ?_ (okc ?_ (okc ?_ (okc ?_ okn))))))
    all_goals ((try simp only [hi0, hx]); first | done | rfl | omega | (simp (disch := omega) only [SS, hi0, hx]; first | done | omega) | (simp_all; done) | (simp_all; omega))
  case rr =>
    clear next
    simp only [hi0, hx, hw]
    repeat' apply And.intro
    all_goals first | exact True.intro | with_reducible rfl | (intros; rfl) | rfl | simp_all

theorem rr3_p0 (k n : Int) (b : List UInt8) (m M : Nat) (F : Ix → Int) (p x : Int) (i : Nat) :
    isEnd (evTill Tryd.prog [] 300 (99) 900 35 (headOf Tryd.f35 0) (envAt Tryd.f35.ntmps ([(1, vP 101), (3, vN (p)), (59, vL 62 1 m), (60, vN m), (61, vN (i : Nat))])) ([⟨62, false, none, 1, .ta M (.vi .i64 F)⟩] ++ ([⟨101, true, none, 139000004, (.tc (.vi .i64 fun _ => k) (.tc (.vi .i64 fun _ => n) (.tc (.vs fun _ => b) (.tc (.vl 62 (fun _ => 0) 1 [] (fun _ => m)) .t0))))⟩])) ⟨[.s true, .s true, .s true, .s true, .s false, .s true], 110⟩) (endP ([]) (vB false) ([]) 115) =
    (OkL [(decide ((↑i : Int) < (↑m : Int)), true), (decide ((0 : Int) ≤ (↑i : Int) ∧ (↑i : Int) < (↑m : Int)), true), (((0 : Nat) + (↑i : Int).toNat).blt M, true), (((0 : Nat) + (↑i : Int).toNat).blt M, true), (decide (F [(0 : Nat) + (↑i : Int).toNat] ≤ p), false), (decide (F [(0 : Nat) + (↑i : Int).toNat] ≥ (↑b.length : Int)), true)] ∧ false = false ∧ True) := by kernel_rfl
theorem rr3_p1 (k n : Int) (b : List UInt8) (m M : Nat) (F : Ix → Int) (p x : Int) (i : Nat) :
    isEnd (evTill Tryd.prog [] 300 (99) 900 35 (headOf Tryd.f35 0) (envAt Tryd.f35.ntmps ([(1, vP 101), (3, vN (p)), (59, vL 62 1 m), (60, vN m), (61, vN (i : Nat))])) ([⟨62, false, none, 1, .ta M (.vi .i64 F)⟩] ++ ([⟨101, true, none, 139000004, (.tc (.vi .i64 fun _ => k) (.tc (.vi .i64 fun _ => n) (.tc (.vs fun _ => b) (.tc (.vl 62 (fun _ => 0) 1 [] (fun _ => m)) .t0))))⟩])) ⟨[.s true, .s true, .s true, .s true, .s true], 110⟩) (endP ([]) (vB false) ([]) 115) =
    (OkL [(decide ((↑i : Int) < (↑m : Int)), true), (decide ((0 : Int) ≤ (↑i : Int) ∧ (↑i : Int) < (↑m : Int)), true), (((0 : Nat) + (↑i : Int).toNat).blt M, true), (((0 : Nat) + (↑i : Int).toNat).blt M, true), (decide (F [(0 : Nat) + (↑i : Int).toNat] ≤ p), true)] ∧ false = false ∧ True) := by kernel_rfl

set_option maxHeartbeats 4000000 in
theorem rr3 (k n : Int) (b : List UInt8) (m M : Nat) (F : Ix → Int) (p x : Int) (i : Nat) (hk : ¬ (p < x ∧ x < b.length)) (hi : i < m) (hx : F [i] = x) (hM : m ≤ M) (hm : m ≤ 100000) (hb : b.length ≤ 100000)  :
    RunsTo Tryd.prog 35 (headOf Tryd.f35 0) (envAt Tryd.f35.ntmps ([(1, vP 101), (3, vN (p)), (59, vL 62 1 m), (60, vN m), (61, vN (i : Nat))])) (Sx.look ([⟨62, false, none, 1, .ta M (.vi .i64 F)⟩] ++ ([⟨101, true, none, 139000004, (.tc (.vi .i64 fun _ => k) (.tc (.vi .i64 fun _ => n) (.tc (.vs fun _ => b) (.tc (.vl 62 (fun _ => 0) 1 [] (fun _ => m)) .t0))))⟩]))) 80 (vB false) (Sx.look ([])) 115 := by
  have hw : IntKind.i64.wrap ((i : Int) + 1) = ((i + 1 : Nat) : Int) := by rw [wr64 (by omega)]; rfl
  have hi0 : 0 + ((i : Nat) : Int).toNat = i := by simp
  refine bcase (c := (decide (F [(0 : Nat) + (↑i : Int).toNat] ≤ p))) (fun gg0 => ?_) (fun gg0 => ?_)
  · refine runs_last baseO (Sx.Ends.of (rr3_p0 k n b m M F p x i) ⟨?oo, ?rr⟩) (by kernel_rfl) rfl (gtL (by decide)) (by decide)
    case oo =>
      refine (okc ?_ (okc ?_ (okc ?_ (okc ?_ (okc gg0 (okc ?_ okn))))))
      all_goals ((try simp only [hi0, hx]); first | done | rfl | omega | (simp (disch := omega) only [SS, hi0, hx]; first | done | omega) | (simp_all; done) | (simp_all; omega))
    case rr =>
      try simp (disch := omega) only [SS]
      repeat' apply And.intro
      all_goals first | exact True.intro | with_reducible rfl | omega | (intros; first | exact True.intro | with_reducible rfl | omega | (simp_all; done)) | (simp_all; done) | rfl
  · refine runs_last baseO (Sx.Ends.of (rr3_p1 k n b m M F p x i) ⟨?oo, ?rr⟩) (by kernel_rfl) rfl (gtL (by decide)) (by decide)
    case oo =>
      refine (okc ?_ (okc ?_ (okc ?_ (okc ?_ (okc gg0 okn)))))
      all_goals ((try simp only [hi0, hx]); first | done | rfl | omega | (simp (disch := omega) only [SS, hi0, hx]; first | done | omega) | (simp_all; done) | (simp_all; omega))
    case rr =>
      try simp (disch := omega) only [SS]
      repeat' apply And.intro
      all_goals first | exact True.intro | with_reducible rfl | omega | (intros; first | exact True.intro | with_reducible rfl | omega | (simp_all; done)) | (simp_all; done) | rfl

theorem rr4_p0 (k n : Int) (b : List UInt8) (m M : Nat) (F : Ix → Int) (p : Int) (i : Nat) :
    isEnd (evTill Tryd.prog [] 300 (99) 900 35 (headOf Tryd.f35 0) (envAt Tryd.f35.ntmps ([(1, vP 101), (3, vN (p)), (59, vL 62 1 m), (60, vN m), (61, vN (i : Nat))])) ([⟨62, false, none, 1, .ta M (.vi .i64 F)⟩] ++ ([⟨101, true, none, 139000004, (.tc (.vi .i64 fun _ => k) (.tc (.vi .i64 fun _ => n) (.tc (.vs fun _ => b) (.tc (.vl 62 (fun _ => 0) 1 [] (fun _ => m)) .t0))))⟩])) ⟨[.s false], 110⟩) (endP ([]) (YES) ([]) 115) =
    (OkL [(decide ((↑i : Int) < (↑m : Int)), false)] ∧ true = true ∧ True) := by kernel_rfl

set_option maxHeartbeats 4000000 in
theorem rr4 (k n : Int) (b : List UInt8) (m M : Nat) (F : Ix → Int) (p : Int) (i : Nat) (hi : i = m)  :
    RunsTo Tryd.prog 35 (headOf Tryd.f35 0) (envAt Tryd.f35.ntmps ([(1, vP 101), (3, vN (p)), (59, vL 62 1 m), (60, vN m), (61, vN (i : Nat))])) (Sx.look ([⟨62, false, none, 1, .ta M (.vi .i64 F)⟩] ++ ([⟨101, true, none, 139000004, (.tc (.vi .i64 fun _ => k) (.tc (.vi .i64 fun _ => n) (.tc (.vs fun _ => b) (.tc (.vl 62 (fun _ => 0) 1 [] (fun _ => m)) .t0))))⟩]))) 80 (YES) (Sx.look ([])) 115 := by
  refine runs_last baseO (Sx.Ends.of (rr4_p0 k n b m M F p i) ⟨?oo, ?rr⟩) (by kernel_rfl) rfl (gtL (by decide)) (by decide)
  case oo =>
    refine (okc ?_ okn)
    all_goals ((try simp (disch := omega) only [SS]); first | done | omega | assumption | (simp (disch := omega) only [SS] at *; first | done | omega | assumption) | (simp_all; done))
  case rr =>
    try simp (disch := omega) only [SS]
    repeat' apply And.intro
    all_goals first | exact True.intro | with_reducible rfl | omega | (intros; first | exact True.intro | with_reducible rfl | omega | (simp_all; done)) | (simp_all; done) | rfl

theorem rrT (k n : Int) (b : List UInt8) (m M : Nat) (F : Ix → Int) (hM : m ≤ M) (hm : m ≤ 100000) (hb : b.length ≤ 100000) : RunsTo Tryd.prog 35 [.code (bodyOf Tryd.f35)] (envOf [.agg (.tc (.vi .i64 fun _ => k) (.tc (.vi .i64 fun _ => n) (.tc (.vs fun _ => b) (.tc (.vl 62 (fun _ => 0) 1 [] (fun _ => m)) .t0))))] Tryd.f35.ntmps) (Sx.look ([⟨62, false, none, 1, .ta M (.vi .i64 F)⟩] ++ ([]))) 80 (vB (rightV k n b.length m F)) (Sx.look []) 115 := by
  rw [rightV_pre]
  cases h : preB k n b.length m with
  | false => exact rr0 k n b m M F h hM hm hb
  | true =>
    rw [Bool.true_and]
    refine rr1 k n b m M F h hM hm hb _ _ ?_
    suffices q : ∀ (j i : Nat) (p : Int), i + j = m → RunsTo Tryd.prog 35 (headOf Tryd.f35 0) (envAt Tryd.f35.ntmps ([(1, vP 101), (3, vN (p)), (59, vL 62 1 m), (60, vN m), (61, vN (i : Nat))])) (Sx.look ([⟨62, false, none, 1, .ta M (.vi .i64 F)⟩] ++ ([⟨101, true, none, 139000004, (.tc (.vi .i64 fun _ => k) (.tc (.vi .i64 fun _ => n) (.tc (.vs fun _ => b) (.tc (.vl 62 (fun _ => 0) 1 [] (fun _ => m)) .t0))))⟩]))) 80 (vB (upR b.length p ((intsF F m).drop i))) (Sx.look []) 115 from by
      have := q m 0 (-1) (by omega)
      simpa using this
    intro j
    induction j with
    | zero =>
      intro i p hi
      rw [List.drop_eq_nil_of_le (by rw [intsF_len]; omega)]
      exact rr4 k n b m M F p i (by omega)
    | succ j ih =>
      intro i p hi
      rw [intsF_drop F (show i < m by omega), upR]
      by_cases hk : p < F [i] ∧ F [i] < b.length
      · rw [decide_eq_true hk, Bool.true_and]
        exact rr2 k n b m M F p (F [i]) i hk (by omega) rfl hM hm hb _ _ (ih (i + 1) (F [i]) (by omega))
      · rw [decide_eq_false hk, Bool.false_and]
        exact rr3 k n b m M F p (F [i]) i hk (by omega) rfl hM hm hb
def rrP : PC := { args := [.agg (.tc (.vi .i64 0) (.tc (.vi .i64 1) (.tc (.vs 2) (.tc (.vl 62 1 3) .t0))))], heap := [⟨62, false, 1, .ta 7 (.vi .i64 8)⟩], gs := [], G := 24, tp := 194, n := 80, n' := 115, cond := fun e => decide (eN e 3 ≤ eN e 7) && (decide (eN e 3 ≤ 100000) && decide ((eS e 2 []).length ≤ 100000)), v := fun e => vB (rightV (eI e 0 []) (eI e 1 []) (eS e 2 []).length (eN e 3) (eI e 8)), post := fun e => [] }
theorem rrP_pc : PC.Runs Tryd.prog 35 Tryd.f35 (bodyOf Tryd.f35) rrP := ⟨Tryd.func35, by kernel_rfl, (fun g hg => by first | (cases hg; done) | (revert g; show ∀ g ∈ ([] : List Nat), g < 24; decide)), fun e H hc => by
  have hc : (decide (eN e 3 ≤ eN e 7) && (decide (eN e 3 ≤ 100000) && decide ((eS e 2 []).length ≤ 100000))) = true := hc
  try simp only [Bool.and_eq_true, decide_eq_true_eq, Nat.beq_eq] at hc
  exact rrT (eI e 0 []) (eI e 1 []) (eS e 2 []) (eN e 3) (eN e 7) (eI e 8) hc.1 hc.2.1 hc.2.2⟩
def sumsRL : List (FuncId × Summ) := [(65, fgP.summ 48)]
theorem baseRL : Base0 Tryd.prog sumsRL := (baseO.cons Tryd.func65 (by kernel_rfl) (PC.summ_ok fgP_pc gtopG))
theorem rl2_p0 (k n : Int) (b : List UInt8) (m M : Nat) (F : Ix → Int) :
    isEnd (evTill Tryd.prog sumsRL 400 (99) 900 36 [.code (bodyOf Tryd.f36)] (envOf [.agg (.tc (.vi .i64 fun _ => k) (.tc (.vi .i64 fun _ => n) (.tc (.vs fun _ => b) (.tc (.vl 62 (fun _ => 0) 1 [] (fun _ => m)) .t0))))] Tryd.f36.ntmps) ([⟨62, false, none, 1, .ta M (.vi .i64 F)⟩] ++ ([])) ⟨[.s true, .s true, .s true], 80⟩) (endP ([]) (vS ([103, 114, 97, 110, 116, 32] ++ Lib.itoa n)) ([]) 150) =
    (OkL [(k == (2 : Int), true), (decide ((0 : Int) ≤ n) && decide (n ≤ (9223372036854775807 : Int)), true), (decide ((6 : Nat) + (Lib.itoa n).length ≤ (9223372036854775807 : Nat)), true)] ∧ [(103 : UInt8), (114 : UInt8), (97 : UInt8), (110 : UInt8), (116 : UInt8), (32 : UInt8)] ++ Lib.itoa n = [(103 : UInt8), (114 : UInt8), (97 : UInt8), (110 : UInt8), (116 : UInt8), (32 : UInt8)] ++ Lib.itoa n ∧ True) := by kernel_rfl

set_option maxHeartbeats 4000000 in
theorem rl2 (k n : Int) (b : List UInt8) (m M : Nat) (F : Ix → Int) (hk : k = 2) (q1 : (Lib.itoa n).length ≤ 21) (h0 : 0 ≤ n) (h9 : n ≤ 9999)  :
    RunsTo Tryd.prog 36 [.code (bodyOf Tryd.f36)] (envOf [.agg (.tc (.vi .i64 fun _ => k) (.tc (.vi .i64 fun _ => n) (.tc (.vs fun _ => b) (.tc (.vl 62 (fun _ => 0) 1 [] (fun _ => m)) .t0))))] Tryd.f36.ntmps) (Sx.look ([⟨62, false, none, 1, .ta M (.vi .i64 F)⟩] ++ ([]))) 80 (vS ([103, 114, 97, 110, 116, 32] ++ Lib.itoa n)) (Sx.look ([])) 150 := by
  refine runs_last baseRL (Sx.Ends.of (rl2_p0 k n b m M F) ⟨?oo, ?rr⟩) (by kernel_rfl) rfl (gtL (by decide)) (by decide)
  case oo =>
    refine (okc ?_ (okc ?_ (okc ?_ okn)))
    all_goals first | rfl | omega | assumption | exact ⟨by omega, by omega⟩ | (simp (disch := omega) only [SS, List.length_append, List.length_cons, List.length_nil]; first | done | omega | exact ⟨by omega, by omega⟩) | (simp_all; done) | (simp_all; omega)
  case rr =>
    exact ⟨rfl, trivial⟩

theorem rl3_p0 (k n : Int) (b : List UInt8) (m M : Nat) (F : Ix → Int) :
    isEnd (evTill Tryd.prog sumsRL 400 (99) 900 36 [.code (bodyOf Tryd.f36)] (envOf [.agg (.tc (.vi .i64 fun _ => k) (.tc (.vi .i64 fun _ => n) (.tc (.vs fun _ => b) (.tc (.vl 62 (fun _ => 0) 1 [] (fun _ => m)) .t0))))] Tryd.f36.ntmps) ([⟨62, false, none, 1, .ta M (.vi .i64 F)⟩] ++ ([])) ⟨[.s false, .s true, .s true, .s true], 80⟩) (endP ([]) (vS ([116, 105, 99, 107, 32] ++ Lib.itoa n)) ([]) 150) =
    (OkL [(k == (2 : Int), false), (k == (3 : Int), true), (decide ((0 : Int) ≤ n) && decide (n ≤ (9223372036854775807 : Int)), true), (decide ((5 : Nat) + (Lib.itoa n).length ≤ (9223372036854775807 : Nat)), true)] ∧ [(116 : UInt8), (105 : UInt8), (99 : UInt8), (107 : UInt8), (32 : UInt8)] ++ Lib.itoa n = [(116 : UInt8), (105 : UInt8), (99 : UInt8), (107 : UInt8), (32 : UInt8)] ++ Lib.itoa n ∧ True) := by kernel_rfl

set_option maxHeartbeats 4000000 in
theorem rl3 (k n : Int) (b : List UInt8) (m M : Nat) (F : Ix → Int) (hk : k = 3) (q1 : (Lib.itoa n).length ≤ 21) (h0 : 0 ≤ n) (h9 : n ≤ 9999)  :
    RunsTo Tryd.prog 36 [.code (bodyOf Tryd.f36)] (envOf [.agg (.tc (.vi .i64 fun _ => k) (.tc (.vi .i64 fun _ => n) (.tc (.vs fun _ => b) (.tc (.vl 62 (fun _ => 0) 1 [] (fun _ => m)) .t0))))] Tryd.f36.ntmps) (Sx.look ([⟨62, false, none, 1, .ta M (.vi .i64 F)⟩] ++ ([]))) 80 (vS ([116, 105, 99, 107, 32] ++ Lib.itoa n)) (Sx.look ([])) 150 := by
  refine runs_last baseRL (Sx.Ends.of (rl3_p0 k n b m M F) ⟨?oo, ?rr⟩) (by kernel_rfl) rfl (gtL (by decide)) (by decide)
  case oo =>
    refine (okc ?_ (okc ?_ (okc ?_ (okc ?_ okn))))
    all_goals first | rfl | omega | assumption | exact ⟨by omega, by omega⟩ | (simp (disch := omega) only [SS, List.length_append, List.length_cons, List.length_nil]; first | done | omega | exact ⟨by omega, by omega⟩) | (simp_all; done) | (simp_all; omega)
  case rr =>
    exact ⟨rfl, trivial⟩

theorem rl4_p0 (k n : Int) (b : List UInt8) (m M : Nat) (F : Ix → Int) :
    isEnd (evTill Tryd.prog sumsRL 400 (99) 900 36 [.code (bodyOf Tryd.f36)] (envOf [.agg (.tc (.vi .i64 fun _ => k) (.tc (.vi .i64 fun _ => n) (.tc (.vs fun _ => b) (.tc (.vl 62 (fun _ => 0) 1 [] (fun _ => m)) .t0))))] Tryd.f36.ntmps) ([⟨62, false, none, 1, .ta M (.vi .i64 F)⟩] ++ ([])) ⟨[.s false, .s false, .s true], 80⟩) (endP ([]) (vS [99, 108, 111, 115, 101]) ([]) 150) =
    (OkL [(k == (2 : Int), false), (k == (3 : Int), false), (k == (4 : Int), true)] ∧ [(99 : UInt8), (108 : UInt8), (111 : UInt8), (115 : UInt8), (101 : UInt8)] = [(99 : UInt8), (108 : UInt8), (111 : UInt8), (115 : UInt8), (101 : UInt8)] ∧ True) := by kernel_rfl

set_option maxHeartbeats 4000000 in
theorem rl4 (k n : Int) (b : List UInt8) (m M : Nat) (F : Ix → Int) (hk : k = 4)  :
    RunsTo Tryd.prog 36 [.code (bodyOf Tryd.f36)] (envOf [.agg (.tc (.vi .i64 fun _ => k) (.tc (.vi .i64 fun _ => n) (.tc (.vs fun _ => b) (.tc (.vl 62 (fun _ => 0) 1 [] (fun _ => m)) .t0))))] Tryd.f36.ntmps) (Sx.look ([⟨62, false, none, 1, .ta M (.vi .i64 F)⟩] ++ ([]))) 80 (vS [99, 108, 111, 115, 101]) (Sx.look ([])) 150 := by
  refine runs_last baseRL (Sx.Ends.of (rl4_p0 k n b m M F) ⟨?oo, ?rr⟩) (by kernel_rfl) rfl (gtL (by decide)) (by decide)
  case oo =>
    refine (okc ?_ (okc ?_ (okc ?_ okn)))
    all_goals first | rfl | omega | assumption | exact ⟨by omega, by omega⟩ | (simp (disch := omega) only [SS, List.length_append, List.length_cons, List.length_nil]; first | done | omega | exact ⟨by omega, by omega⟩) | (simp_all; done) | (simp_all; omega)
  case rr =>
    exact ⟨rfl, trivial⟩

theorem rl1_p0 (k n : Int) (b : List UInt8) (m M : Nat) (F : Ix → Int) :
    isMore (evTill Tryd.prog sumsRL 400 (behind Tryd.f36 0) 900 36 [.code (bodyOf Tryd.f36)] (envOf [.agg (.tc (.vi .i64 fun _ => k) (.tc (.vi .i64 fun _ => n) (.tc (.vs fun _ => b) (.tc (.vl 62 (fun _ => 0) 1 [] (fun _ => m)) .t0))))] Tryd.f36.ntmps) ([⟨62, false, none, 1, .ta M (.vi .i64 F)⟩] ++ ([])) ⟨[.s false, .s false, .s false], 80⟩) (moreP (headOf Tryd.f36 0) ([((101 : Nat), Rn.to (80 : Nat))]) Tryd.f36.ntmps ([(1, vP 101), (3, vS ([98, 121, 116, 101, 115, 32])), (4, vN (0 : Nat))]) ([⟨101, true, none, 139000004, (.tc (.vi .i64 fun _ => k) (.tc (.vi .i64 fun _ => n) (.tc (.vs fun _ => b) (.tc (.vl 62 (fun _ => 0) 1 [] (fun _ => m)) .t0))))⟩]) 150) =
    (OkL [(k == (2 : Int), false), (k == (3 : Int), false), (k == (4 : Int), false)] ∧ headOf Tryd.f36 (0 : Nat) = headOf Tryd.f36 (0 : Nat) ∧ ((0 : Nat) = (0 : Nat) ∧ [(98 : UInt8), (121 : UInt8), (116 : UInt8), (101 : UInt8), (115 : UInt8), (32 : UInt8)] = [(98 : UInt8), (121 : UInt8), (116 : UInt8), (101 : UInt8), (115 : UInt8), (32 : UInt8)] ∧ (↑(0 : Nat) : Int) = (0 : Int)) ∧ k = k ∧ n = n ∧ b = b ∧ (0 : Nat) = (0 : Nat) ∧ m = m) := by kernel_rfl

set_option maxHeartbeats 4000000 in
theorem rl1 (k n : Int) (b : List UInt8) (m M : Nat) (F : Ix → Int) (h2 : k ≠ 2) (h3 : k ≠ 3) (h4 : k ≠ 4)  (v : SV) (L' : HF) (next : RunsTo Tryd.prog 36 (headOf Tryd.f36 0) (envAt Tryd.f36.ntmps ([(1, vP 101), (3, vS ([98, 121, 116, 101, 115, 32])), (4, vN (0 : Nat))])) (Sx.look ([⟨62, false, none, 1, .ta M (.vi .i64 F)⟩] ++ ([⟨101, true, none, 139000004, (.tc (.vi .i64 fun _ => k) (.tc (.vi .i64 fun _ => n) (.tc (.vs fun _ => b) (.tc (.vl 62 (fun _ => 0) 1 [] (fun _ => m)) .t0))))⟩]))) 80 (v) (L') 150) :
    RunsTo Tryd.prog 36 [.code (bodyOf Tryd.f36)] (envOf [.agg (.tc (.vi .i64 fun _ => k) (.tc (.vi .i64 fun _ => n) (.tc (.vs fun _ => b) (.tc (.vl 62 (fun _ => 0) 1 [] (fun _ => m)) .t0))))] Tryd.f36.ntmps) (Sx.look ([⟨62, false, none, 1, .ta M (.vi .i64 F)⟩] ++ ([]))) 80 (v) (L') 150 := by
  refine runs_more baseRL (More.of (rl1_p0 k n b m M F) ⟨?oo, rfl, ?rr⟩) (by kernel_rfl) (by kernel_rfl) rfl (gtL (by decide)) (by decide) next
  case oo =>
    clear next
    refine (okc ?_ (okc ?_ (okc ?_ okn)))
    all_goals ((try simp (disch := omega) only [SS]); first | done | omega | assumption | (simp (disch := omega) only [SS] at *; first | done | omega | assumption) | (simp_all; done))
  case rr =>
    clear next
    try simp (disch := omega) only [SS]
    repeat' apply And.intro
    all_goals first | exact True.intro | with_reducible rfl | omega | (intros; first | exact True.intro | with_reducible rfl | omega | (simp_all; done)) | (simp_all; done) | rfl

theorem rl5_p0 (k n : Int) (b : List UInt8) (m M : Nat) (F : Ix → Int) (t : List UInt8) (i : Nat) (c : UInt8) :
    isMore (evTill Tryd.prog sumsRL 400 (behind Tryd.f36 0) 900 36 (headOf Tryd.f36 0) (envAt Tryd.f36.ntmps ([(1, vP 101), (3, vS (t)), (4, vN (i : Nat))])) ([⟨62, false, none, 1, .ta M (.vi .i64 F)⟩] ++ ([⟨101, true, none, 139000004, (.tc (.vi .i64 fun _ => k) (.tc (.vi .i64 fun _ => n) (.tc (.vs fun _ => b) (.tc (.vl 62 (fun _ => 0) 1 [] (fun _ => m)) .t0))))⟩])) ⟨[.s true, .s true, .t, .s true, .t, .s true, .s true, .s true, .s true, .s true, .s true], 110⟩) (moreP (headOf Tryd.f36 0) ([]) Tryd.f36.ntmps ([(1, vP 101), (3, vS (t ++ ([hx (c.toNat / 16)] ++ [hx (c.toNat % 16)]))), (4, vN (i + 1 : Nat))]) ([⟨101, true, none, 139000004, (.tc (.vi .i64 fun _ => k) (.tc (.vi .i64 fun _ => n) (.tc (.vs fun _ => b) (.tc (.vl 62 (fun _ => 0) 1 [] (fun _ => m)) .t0))))⟩]) 150) =
    (OkL [(decide ((↑i : Int) < (↑b.length : Int)), true), (decide ((0 : Int) ≤ (↑i : Int) ∧ (↑i : Int) < (↑b.length : Int)), true), (decide ((0 : Int) ≤ (↑i : Int) ∧ (↑i : Int) < (↑b.length : Int)), true), (decide ((0 : Int) ≤ IntKind.i64.wrap (IntKind.i64.wrap ((IntKind.i64.wrap (↑(b.getD (↑i : Int).toNat (0 : UInt8)).toNat : Int)).tdiv (16 : Int)) + (1 : Int)) ∧ IntKind.i64.wrap (IntKind.i64.wrap ((IntKind.i64.wrap (↑(b.getD (↑i : Int).toNat (0 : UInt8)).toNat : Int)).tdiv (16 : Int)) + (1 : Int)) ≤ (↑(16 : Nat) : Int)), true), (decide ((0 : Int) ≤ IntKind.i64.wrap ((IntKind.i64.wrap (↑(b.getD (↑i : Int).toNat (0 : UInt8)).toNat : Int)).tdiv (16 : Int)) ∧ IntKind.i64.wrap ((IntKind.i64.wrap (↑(b.getD (↑i : Int).toNat (0 : UInt8)).toNat : Int)).tdiv (16 : Int)) ≤ IntKind.i64.wrap (IntKind.i64.wrap ((IntKind.i64.wrap (↑(b.getD (↑i : Int).toNat (0 : UInt8)).toNat : Int)).tdiv (16 : Int)) + (1 : Int))), true), (decide ((0 : Int) ≤ IntKind.i64.wrap ((IntKind.i64.wrap (↑(b.getD (↑i : Int).toNat (0 : UInt8)).toNat : Int)).tmod (16 : Int) + (1 : Int)) ∧ IntKind.i64.wrap ((IntKind.i64.wrap (↑(b.getD (↑i : Int).toNat (0 : UInt8)).toNat : Int)).tmod (16 : Int) + (1 : Int)) ≤ (↑(16 : Nat) : Int)), true), (decide ((0 : Int) ≤ (IntKind.i64.wrap (↑(b.getD (↑i : Int).toNat (0 : UInt8)).toNat : Int)).tmod (16 : Int) ∧ (IntKind.i64.wrap (↑(b.getD (↑i : Int).toNat (0 : UInt8)).toNat : Int)).tmod (16 : Int) ≤ IntKind.i64.wrap ((IntKind.i64.wrap (↑(b.getD (↑i : Int).toNat (0 : UInt8)).toNat : Int)).tmod (16 : Int) + (1 : Int))), true), (decide ((List.drop (IntKind.i64.wrap ((IntKind.i64.wrap (↑(b.getD (↑i : Int).toNat (0 : UInt8)).toNat : Int)).tdiv (16 : Int))).toNat (List.take (IntKind.i64.wrap (IntKind.i64.wrap ((IntKind.i64.wrap (↑(b.getD (↑i : Int).toNat (0 : UInt8)).toNat : Int)).tdiv (16 : Int)) + (1 : Int))).toNat [(48 : UInt8), (49 : UInt8), (50 : UInt8), (51 : UInt8), (52 : UInt8), (53 : UInt8), (54 : UInt8), (55 : UInt8), (56 : UInt8), (57 : UInt8), (97 : UInt8), (98 : UInt8), (99 : UInt8), (100 : UInt8), (101 : UInt8), (102 : UInt8)])).length + (List.drop ((IntKind.i64.wrap (↑(b.getD (↑i : Int).toNat (0 : UInt8)).toNat : Int)).tmod (16 : Int)).toNat (List.take (IntKind.i64.wrap ((IntKind.i64.wrap (↑(b.getD (↑i : Int).toNat (0 : UInt8)).toNat : Int)).tmod (16 : Int) + (1 : Int))).toNat [(48 : UInt8), (49 : UInt8), (50 : UInt8), (51 : UInt8), (52 : UInt8), (53 : UInt8), (54 : UInt8), (55 : UInt8), (56 : UInt8), (57 : UInt8), (97 : UInt8), (98 : UInt8), (99 : UInt8), (100 : UInt8), (101 : UInt8), (102 : UInt8)])).length ≤ (9223372036854775807 : Nat)), true), (decide (t.length + (List.drop (IntKind.i64.wrap ((IntKind.i64.wrap (↑(b.getD (↑i : Int).toNat (0 : UInt8)).toNat : Int)).tdiv (16 : Int))).toNat (List.take (IntKind.i64.wrap (IntKind.i64.wrap ((IntKind.i64.wrap (↑(b.getD (↑i : Int).toNat (0 : UInt8)).toNat : Int)).tdiv (16 : Int)) + (1 : Int))).toNat [(48 : UInt8), (49 : UInt8), (50 : UInt8), (51 : UInt8), (52 : UInt8), (53 : UInt8), (54 : UInt8), (55 : UInt8), (56 : UInt8), (57 : UInt8), (97 : UInt8), (98 : UInt8), (99 : UInt8), (100 : UInt8), (101 : UInt8), (102 : UInt8)]) ++ List.drop ((IntKind.i64.wrap (↑(b.getD (↑i : Int).toNat (0 : UInt8)).toNat : Int)).tmod (16 : Int)).toNat (List.take (IntKind.i64.wrap ((IntKind.i64.wrap (↑(b.getD (↑i : Int).toNat (0 : UInt8)).toNat : Int)).tmod (16 : Int) + (1 : Int))).toNat [(48 : UInt8), (49 : UInt8), (50 : UInt8), (51 : UInt8), (52 : UInt8), (53 : UInt8), (54 : UInt8), (55 : UInt8), (56 : UInt8), (57 : UInt8), (97 : UInt8), (98 : UInt8), (99 : UInt8), (100 : UInt8), (101 : UInt8), (102 : UInt8)])).length ≤ (9223372036854775807 : Nat)), true)] ∧ headOf Tryd.f36 (0 : Nat) = headOf Tryd.f36 (0 : Nat) ∧ ((0 : Nat) = (0 : Nat) ∧ t ++ ([hx (c.toNat / (16 : Nat))] ++ [hx (c.toNat % (16 : Nat))]) = t ++ (List.drop (IntKind.i64.wrap ((IntKind.i64.wrap (↑(b.getD (↑i : Int).toNat (0 : UInt8)).toNat : Int)).tdiv (16 : Int))).toNat (List.take (IntKind.i64.wrap (IntKind.i64.wrap ((IntKind.i64.wrap (↑(b.getD (↑i : Int).toNat (0 : UInt8)).toNat : Int)).tdiv (16 : Int)) + (1 : Int))).toNat [(48 : UInt8), (49 : UInt8), (50 : UInt8), (51 : UInt8), (52 : UInt8), (53 : UInt8), (54 : UInt8), (55 : UInt8), (56 : UInt8), (57 : UInt8), (97 : UInt8), (98 : UInt8), (99 : UInt8), (100 : UInt8), (101 : UInt8), (102 : UInt8)]) ++ List.drop ((IntKind.i64.wrap (↑(b.getD (↑i : Int).toNat (0 : UInt8)).toNat : Int)).tmod (16 : Int)).toNat (List.take (IntKind.i64.wrap ((IntKind.i64.wrap (↑(b.getD (↑i : Int).toNat (0 : UInt8)).toNat : Int)).tmod (16 : Int) + (1 : Int))).toNat [(48 : UInt8), (49 : UInt8), (50 : UInt8), (51 : UInt8), (52 : UInt8), (53 : UInt8), (54 : UInt8), (55 : UInt8), (56 : UInt8), (57 : UInt8), (97 : UInt8), (98 : UInt8), (99 : UInt8), (100 : UInt8), (101 : UInt8), (102 : UInt8)])) ∧ (↑(i + (1 : Nat)) : Int) = IntKind.i64.wrap ((↑i : Int) + (1 : Int))) ∧ k = k ∧ n = n ∧ b = b ∧ (0 : Nat) = (0 : Nat) ∧ m = m) := by kernel_rfl

set_option maxHeartbeats 4000000 in
theorem rl5 (k n : Int) (b : List UInt8) (m M : Nat) (F : Ix → Int) (t : List UInt8) (i : Nat) (c : UInt8) (hi : i < b.length) (hb : b.length ≤ 100000) (hc : b.getD i 0 = c) (ht : t.length ≤ 1000000)  (v : SV) (L' : HF) (next : RunsTo Tryd.prog 36 (headOf Tryd.f36 0) (envAt Tryd.f36.ntmps ([(1, vP 101), (3, vS (t ++ ([hx (c.toNat / 16)] ++ [hx (c.toNat % 16)]))), (4, vN (i + 1 : Nat))])) (Sx.look ([⟨62, false, none, 1, .ta M (.vi .i64 F)⟩] ++ ([⟨101, true, none, 139000004, (.tc (.vi .i64 fun _ => k) (.tc (.vi .i64 fun _ => n) (.tc (.vs fun _ => b) (.tc (.vl 62 (fun _ => 0) 1 [] (fun _ => m)) .t0))))⟩]))) 80 (v) (L') 150) :
    RunsTo Tryd.prog 36 (headOf Tryd.f36 0) (envAt Tryd.f36.ntmps ([(1, vP 101), (3, vS (t)), (4, vN (i : Nat))])) (Sx.look ([⟨62, false, none, 1, .ta M (.vi .i64 F)⟩] ++ ([⟨101, true, none, 139000004, (.tc (.vi .i64 fun _ => k) (.tc (.vi .i64 fun _ => n) (.tc (.vs fun _ => b) (.tc (.vl 62 (fun _ => 0) 1 [] (fun _ => m)) .t0))))⟩]))) 80 (v) (L') 150 := by
  have hw : IntKind.i64.wrap ((i : Int) + 1) = ((i + 1 : Nat) : Int) := by rw [wr64 (by omega)]; rfl
  have hb8 := u8nat c
  have w0 : IntKind.i64.wrap (c.toNat : Int) = (c.toNat : Int) := wr64 (by omega)
  have w1 : (c.toNat : Int).tdiv 16 = ((c.toNat / 16 : Nat) : Int) := by rw [Int.tdiv_eq_ediv_of_nonneg (by omega)]; rfl
  have w2 : (c.toNat : Int).tmod 16 = ((c.toNat % 16 : Nat) : Int) := by rw [Int.tmod_eq_emod_of_nonneg (by omega)]; rfl
  have w3 : IntKind.i64.wrap ((c.toNat / 16 : Nat) : Int) = ((c.toNat / 16 : Nat) : Int) := wr64 (by omega)
  have w4 : IntKind.i64.wrap (((c.toNat / 16 : Nat) : Int) + 1) = ((c.toNat / 16 + 1 : Nat) : Int) := by rw [wr64 (by omega)]; rfl
  have w5 : IntKind.i64.wrap (((c.toNat % 16 : Nat) : Int) + 1) = ((c.toNat % 16 + 1 : Nat) : Int) := by rw [wr64 (by omega)]; rfl
  have x1 := hex_sub (show c.toNat / 16 < 16 by omega)
  have x2 := hex_sub (show c.toNat % 16 < 16 by omega)
  refine runs_more baseRL (More.of (rl5_p0 k n b m M F t i c) ⟨?oo, rfl, ?rr⟩) (by kernel_rfl) (by kernel_rfl) rfl (gtL (by decide)) (by decide) next
  case oo =>
    clear next
    refine (okc ?_ (okc ?_ (okc ?_ (okc ?_ (okc ?_ (okc ?_ (okc ?_ (okc ?_ (okc ?_ okn)))))))))
    all_goals ((try simp only [hc, w0, w1, w2, w3, w4, w5, x1, x2, Int.toNat_natCast]); first | done | rfl | omega | (simp (disch := omega) only [SS, hc, w0, w1, w2, w3, w4, w5, x1, x2, Int.toNat_natCast, List.length_append, List.length_cons, List.length_nil]; first | done | omega) | (simp_all; done) | (simp_all; omega))
  case rr =>
    clear next
    simp only [hw, hc, w0, w1, w2, w3, w4, w5, x1, x2, Int.toNat_natCast]
    repeat' apply And.intro
    all_goals first | exact True.intro | with_reducible rfl | (intros; rfl) | (simp; done) | rfl

theorem rl6_p0 (k n : Int) (b : List UInt8) (m M : Nat) (F : Ix → Int) (t : List UInt8) (i : Nat) :
    isMore (evTill Tryd.prog sumsRL 400 (behind Tryd.f36 1) 900 36 (headOf Tryd.f36 0) (envAt Tryd.f36.ntmps ([(1, vP 101), (3, vS (t)), (4, vN (i : Nat))])) ([⟨62, false, none, 1, .ta M (.vi .i64 F)⟩] ++ ([⟨101, true, none, 139000004, (.tc (.vi .i64 fun _ => k) (.tc (.vi .i64 fun _ => n) (.tc (.vs fun _ => b) (.tc (.vl 62 (fun _ => 0) 1 [] (fun _ => m)) .t0))))⟩])) ⟨[.s false, .s false], 110⟩) (moreP (headOf Tryd.f36 1) ([]) Tryd.f36.ntmps ([(3, vS (t)), (62, vL 62 1 m), (63, vN m), (64, vN (0 : Nat))]) ([]) 150) =
    (OkL [(decide ((↑i : Int) < (↑b.length : Int)), false), ((↑b.length : Int) == (0 : Int), false)] ∧ headOf Tryd.f36 (1 : Nat) = headOf Tryd.f36 (1 : Nat) ∧ (t = t ∧ ((0 : Nat) = (0 : Nat) ∧ m = m) ∧ (↑m : Int) = (↑m : Int) ∧ (↑(0 : Nat) : Int) = (0 : Int)) ∧ True) := by kernel_rfl

set_option maxHeartbeats 4000000 in
theorem rl6 (k n : Int) (b : List UInt8) (m M : Nat) (F : Ix → Int) (t : List UInt8) (i : Nat) (hi : i = b.length) (hz : b ≠ []) (hb : b.length ≤ 100000)  (v : SV) (L' : HF) (next : RunsTo Tryd.prog 36 (headOf Tryd.f36 1) (envAt Tryd.f36.ntmps ([(3, vS (t)), (62, vL 62 1 m), (63, vN m), (64, vN (0 : Nat))])) (Sx.look ([⟨62, false, none, 1, .ta M (.vi .i64 F)⟩] ++ ([]))) 80 (v) (L') 150) :
    RunsTo Tryd.prog 36 (headOf Tryd.f36 0) (envAt Tryd.f36.ntmps ([(1, vP 101), (3, vS (t)), (4, vN (i : Nat))])) (Sx.look ([⟨62, false, none, 1, .ta M (.vi .i64 F)⟩] ++ ([⟨101, true, none, 139000004, (.tc (.vi .i64 fun _ => k) (.tc (.vi .i64 fun _ => n) (.tc (.vs fun _ => b) (.tc (.vl 62 (fun _ => 0) 1 [] (fun _ => m)) .t0))))⟩]))) 80 (v) (L') 150 := by
  have hp : 0 < b.length := List.length_pos_iff.2 hz
  refine runs_more baseRL (More.of (rl6_p0 k n b m M F t i) ⟨?oo, rfl, ?rr⟩) (by kernel_rfl) (by kernel_rfl) rfl (gtL (by decide)) (by decide) next
  case oo =>
    clear next
    refine (okc ?_ (okc ?_ okn))
    all_goals first | rfl | omega | (simp only [SS]; first | done | omega) | (simp_all; done) | (simp_all; omega)
  case rr =>
    clear next
    try simp (disch := omega) only [SS]
    repeat' apply And.intro
    all_goals first | exact True.intro | with_reducible rfl | omega | (intros; first | exact True.intro | with_reducible rfl | omega | (simp_all; done)) | (simp_all; done) | rfl

theorem rl7_p0 (k n : Int) (b : List UInt8) (m M : Nat) (F : Ix → Int) (t : List UInt8) (i : Nat) :
    isMore (evTill Tryd.prog sumsRL 400 (behind Tryd.f36 1) 900 36 (headOf Tryd.f36 0) (envAt Tryd.f36.ntmps ([(1, vP 101), (3, vS (t)), (4, vN (i : Nat))])) ([⟨62, false, none, 1, .ta M (.vi .i64 F)⟩] ++ ([⟨101, true, none, 139000004, (.tc (.vi .i64 fun _ => k) (.tc (.vi .i64 fun _ => n) (.tc (.vs fun _ => b) (.tc (.vl 62 (fun _ => 0) 1 [] (fun _ => m)) .t0))))⟩])) ⟨[.s false, .s true, .s true], 110⟩) (moreP (headOf Tryd.f36 1) ([]) Tryd.f36.ntmps ([(3, vS (t ++ [45])), (62, vL 62 1 m), (63, vN m), (64, vN (0 : Nat))]) ([]) 150) =
    (OkL [(decide ((↑i : Int) < (↑b.length : Int)), false), ((↑b.length : Int) == (0 : Int), true), (decide (t.length + (1 : Nat) ≤ (9223372036854775807 : Nat)), true)] ∧ headOf Tryd.f36 (1 : Nat) = headOf Tryd.f36 (1 : Nat) ∧ (t ++ [(45 : UInt8)] = t ++ [(45 : UInt8)] ∧ ((0 : Nat) = (0 : Nat) ∧ m = m) ∧ (↑m : Int) = (↑m : Int) ∧ (↑(0 : Nat) : Int) = (0 : Int)) ∧ True) := by kernel_rfl

set_option maxHeartbeats 4000000 in
theorem rl7 (k n : Int) (b : List UInt8) (m M : Nat) (F : Ix → Int) (t : List UInt8) (i : Nat) (hi : i = b.length) (hz : b = []) (ht : t.length ≤ 1000000)  (v : SV) (L' : HF) (next : RunsTo Tryd.prog 36 (headOf Tryd.f36 1) (envAt Tryd.f36.ntmps ([(3, vS (t ++ [45])), (62, vL 62 1 m), (63, vN m), (64, vN (0 : Nat))])) (Sx.look ([⟨62, false, none, 1, .ta M (.vi .i64 F)⟩] ++ ([]))) 80 (v) (L') 150) :
    RunsTo Tryd.prog 36 (headOf Tryd.f36 0) (envAt Tryd.f36.ntmps ([(1, vP 101), (3, vS (t)), (4, vN (i : Nat))])) (Sx.look ([⟨62, false, none, 1, .ta M (.vi .i64 F)⟩] ++ ([⟨101, true, none, 139000004, (.tc (.vi .i64 fun _ => k) (.tc (.vi .i64 fun _ => n) (.tc (.vs fun _ => b) (.tc (.vl 62 (fun _ => 0) 1 [] (fun _ => m)) .t0))))⟩]))) 80 (v) (L') 150 := by
  have hz2 : b.length = 0 := by rw [hz]; rfl
  refine runs_more baseRL (More.of (rl7_p0 k n b m M F t i) ⟨?oo, rfl, ?rr⟩) (by kernel_rfl) (by kernel_rfl) rfl (gtL (by decide)) (by decide) next
  case oo =>
    clear next
    refine (okc ?_ (okc ?_ (okc ?_ okn)))
    all_goals first | omega | (simp only [SS, hz2, List.length_nil, List.length_cons]; first | done | omega) | (simp only [SS, hz2]; omega)
  case rr =>
    clear next
    try simp (disch := omega) only [SS]
    repeat' apply And.intro
    all_goals first | exact True.intro | with_reducible rfl | omega | (intros; first | exact True.intro | with_reducible rfl | omega | (simp_all; done)) | (simp_all; done) | rfl

theorem rl8_p0 (k n : Int) (b : List UInt8) (m M : Nat) (F : Ix → Int) (t : List UInt8) (i : Nat) (x : Int) :
    isMore (evTill Tryd.prog sumsRL 400 (behind Tryd.f36 1) 900 36 (headOf Tryd.f36 1) (envAt Tryd.f36.ntmps ([(3, vS (t)), (62, vL 62 1 m), (63, vN m), (64, vN (i : Nat))])) ([⟨62, false, none, 1, .ta M (.vi .i64 F)⟩] ++ ([])) ⟨[.s true, .s true, .s true, .s true, .s true, .s true, .s true, .s true], 110⟩) (moreP (headOf Tryd.f36 1) ([]) Tryd.f36.ntmps ([(3, vS ((t ++ [32, 109, 97, 114, 107, 115, 32]) ++ Lib.itoa x)), (62, vL 62 1 m), (63, vN m), (64, vN (i + 1 : Nat))]) ([]) 150) =
    (OkL [(decide ((↑i : Int) < (↑m : Int)), true), (decide ((0 : Int) ≤ (↑i : Int) ∧ (↑i : Int) < (↑m : Int)), true), (((0 : Nat) + (↑i : Int).toNat).blt M, true), (((0 : Nat) + (↑i : Int).toNat).blt M, true), ((↑i : Int) == (0 : Int), true), (decide (t.length + (7 : Nat) ≤ (9223372036854775807 : Nat)), true), (decide ((0 : Int) ≤ F [(0 : Nat) + (↑i : Int).toNat]) && decide (F [(0 : Nat) + (↑i : Int).toNat] ≤ (9223372036854775807 : Int)), true), (decide ((t ++ [(32 : UInt8), (109 : UInt8), (97 : UInt8), (114 : UInt8), (107 : UInt8), (115 : UInt8), (32 : UInt8)]).length + (Lib.itoa (F [(0 : Nat) + (↑i : Int).toNat])).length ≤ (9223372036854775807 : Nat)), true)] ∧ headOf Tryd.f36 (1 : Nat) = headOf Tryd.f36 (1 : Nat) ∧ (t ++ [(32 : UInt8), (109 : UInt8), (97 : UInt8), (114 : UInt8), (107 : UInt8), (115 : UInt8), (32 : UInt8)] ++ Lib.itoa x = t ++ [(32 : UInt8), (109 : UInt8), (97 : UInt8), (114 : UInt8), (107 : UInt8), (115 : UInt8), (32 : UInt8)] ++ Lib.itoa (F [(0 : Nat) + (↑i : Int).toNat]) ∧ ((0 : Nat) = (0 : Nat) ∧ m = m) ∧ (↑m : Int) = (↑m : Int) ∧ (↑(i + (1 : Nat)) : Int) = IntKind.i64.wrap ((↑i : Int) + (1 : Int))) ∧ True) := by kernel_rfl

set_option maxHeartbeats 4000000 in
theorem rl8 (k n : Int) (b : List UInt8) (m M : Nat) (F : Ix → Int) (t : List UInt8) (i : Nat) (x : Int) (hi : i < m) (hz : i = 0) (hx : F [i] = x) (hr0 : 0 ≤ x) (hr9 : x ≤ 100000) (q1 : (Lib.itoa x).length ≤ 21) (hM : m ≤ M) (hm : m ≤ 100000) (ht : t.length ≤ 5000000)  (v : SV) (L' : HF) (next : RunsTo Tryd.prog 36 (headOf Tryd.f36 1) (envAt Tryd.f36.ntmps ([(3, vS ((t ++ [32, 109, 97, 114, 107, 115, 32]) ++ Lib.itoa x)), (62, vL 62 1 m), (63, vN m), (64, vN (i + 1 : Nat))])) (Sx.look ([⟨62, false, none, 1, .ta M (.vi .i64 F)⟩] ++ ([]))) 80 (v) (L') 150) :
    RunsTo Tryd.prog 36 (headOf Tryd.f36 1) (envAt Tryd.f36.ntmps ([(3, vS (t)), (62, vL 62 1 m), (63, vN m), (64, vN (i : Nat))])) (Sx.look ([⟨62, false, none, 1, .ta M (.vi .i64 F)⟩] ++ ([]))) 80 (v) (L') 150 := by
  have hw : IntKind.i64.wrap ((i : Int) + 1) = ((i + 1 : Nat) : Int) := by rw [wr64 (by omega)]; rfl
  have hi0 : 0 + ((i : Nat) : Int).toNat = i := by simp
  refine runs_more baseRL (More.of (rl8_p0 k n b m M F t i x) ⟨?oo, rfl, ?rr⟩) (by kernel_rfl) (by kernel_rfl) rfl (gtL (by decide)) (by decide) next
  case oo =>
    clear next
    refine (okc ?_ (okc ?_ (okc ?_ (okc ?_ (okc ?_ (okc ?_ (okc ?_ (okc ?_ okn))))))))
    all_goals ((try simp only [hi0, hx]); first | done | rfl | omega | exact ⟨by omega, by omega⟩ | (simp (disch := omega) only [SS, hi0, hx, List.length_append, List.length_cons, List.length_nil]; first | done | omega | exact ⟨by omega, by omega⟩) | (simp_all; done) | (simp_all; omega))
  case rr =>
    clear next
    simp only [hw, hi0, hx]
    repeat' apply And.intro
    all_goals first | exact True.intro | with_reducible rfl | (intros; rfl) | (simp; done) | rfl

theorem rl9_p0 (k n : Int) (b : List UInt8) (m M : Nat) (F : Ix → Int) (t : List UInt8) (i : Nat) (x : Int) :
    isMore (evTill Tryd.prog sumsRL 400 (behind Tryd.f36 1) 900 36 (headOf Tryd.f36 1) (envAt Tryd.f36.ntmps ([(3, vS (t)), (62, vL 62 1 m), (63, vN m), (64, vN (i : Nat))])) ([⟨62, false, none, 1, .ta M (.vi .i64 F)⟩] ++ ([])) ⟨[.s true, .s true, .s true, .s true, .s false, .s true, .s true, .s true], 110⟩) (moreP (headOf Tryd.f36 1) ([]) Tryd.f36.ntmps ([(3, vS ((t ++ [44]) ++ Lib.itoa x)), (62, vL 62 1 m), (63, vN m), (64, vN (i + 1 : Nat))]) ([]) 150) =
    (OkL [(decide ((↑i : Int) < (↑m : Int)), true), (decide ((0 : Int) ≤ (↑i : Int) ∧ (↑i : Int) < (↑m : Int)), true), (((0 : Nat) + (↑i : Int).toNat).blt M, true), (((0 : Nat) + (↑i : Int).toNat).blt M, true), ((↑i : Int) == (0 : Int), false), (decide (t.length + (1 : Nat) ≤ (9223372036854775807 : Nat)), true), (decide ((0 : Int) ≤ F [(0 : Nat) + (↑i : Int).toNat]) && decide (F [(0 : Nat) + (↑i : Int).toNat] ≤ (9223372036854775807 : Int)), true), (decide ((t ++ [(44 : UInt8)]).length + (Lib.itoa (F [(0 : Nat) + (↑i : Int).toNat])).length ≤ (9223372036854775807 : Nat)), true)] ∧ headOf Tryd.f36 (1 : Nat) = headOf Tryd.f36 (1 : Nat) ∧ (t ++ [(44 : UInt8)] ++ Lib.itoa x = t ++ [(44 : UInt8)] ++ Lib.itoa (F [(0 : Nat) + (↑i : Int).toNat]) ∧ ((0 : Nat) = (0 : Nat) ∧ m = m) ∧ (↑m : Int) = (↑m : Int) ∧ (↑(i + (1 : Nat)) : Int) = IntKind.i64.wrap ((↑i : Int) + (1 : Int))) ∧ True) := by kernel_rfl

set_option maxHeartbeats 4000000 in
theorem rl9 (k n : Int) (b : List UInt8) (m M : Nat) (F : Ix → Int) (t : List UInt8) (i : Nat) (x : Int) (hi : i < m) (hz : i ≠ 0) (hx : F [i] = x) (hr0 : 0 ≤ x) (hr9 : x ≤ 100000) (q1 : (Lib.itoa x).length ≤ 21) (hM : m ≤ M) (hm : m ≤ 100000) (ht : t.length ≤ 5000000)  (v : SV) (L' : HF) (next : RunsTo Tryd.prog 36 (headOf Tryd.f36 1) (envAt Tryd.f36.ntmps ([(3, vS ((t ++ [44]) ++ Lib.itoa x)), (62, vL 62 1 m), (63, vN m), (64, vN (i + 1 : Nat))])) (Sx.look ([⟨62, false, none, 1, .ta M (.vi .i64 F)⟩] ++ ([]))) 80 (v) (L') 150) :
    RunsTo Tryd.prog 36 (headOf Tryd.f36 1) (envAt Tryd.f36.ntmps ([(3, vS (t)), (62, vL 62 1 m), (63, vN m), (64, vN (i : Nat))])) (Sx.look ([⟨62, false, none, 1, .ta M (.vi .i64 F)⟩] ++ ([]))) 80 (v) (L') 150 := by
  have hw : IntKind.i64.wrap ((i : Int) + 1) = ((i + 1 : Nat) : Int) := by rw [wr64 (by omega)]; rfl
  have hi0 : 0 + ((i : Nat) : Int).toNat = i := by simp
  refine runs_more baseRL (More.of (rl9_p0 k n b m M F t i x) ⟨?oo, rfl, ?rr⟩) (by kernel_rfl) (by kernel_rfl) rfl (gtL (by decide)) (by decide) next
  case oo =>
    clear next
    refine (okc ?_ (okc ?_ (okc ?_ (okc ?_ (okc ?_ (okc ?_ (okc ?_ (okc ?_ okn))))))))
    all_goals ((try simp only [hi0, hx]); first | done | rfl | omega | exact ⟨by omega, by omega⟩ | (simp (disch := omega) only [SS, hi0, hx, List.length_append, List.length_cons, List.length_nil]; first | done | omega | exact ⟨by omega, by omega⟩) | (simp_all; done) | (simp_all; omega))
  case rr =>
    clear next
    simp only [hw, hi0, hx]
    repeat' apply And.intro
    all_goals first | exact True.intro | with_reducible rfl | (intros; rfl) | (simp; done) | rfl

theorem rla_p0 (k n : Int) (b : List UInt8) (m M : Nat) (F : Ix → Int) (t : List UInt8) (i : Nat) :
    isEnd (evTill Tryd.prog sumsRL 400 (99) 900 36 (headOf Tryd.f36 1) (envAt Tryd.f36.ntmps ([(3, vS (t)), (62, vL 62 1 m), (63, vN m), (64, vN (i : Nat))])) ([⟨62, false, none, 1, .ta M (.vi .i64 F)⟩] ++ ([])) ⟨[.s false], 110⟩) (endP ([]) (vS t) ([]) 150) =
    (OkL [(decide ((↑i : Int) < (↑m : Int)), false)] ∧ t = t ∧ True) := by kernel_rfl

set_option maxHeartbeats 4000000 in
theorem rla (k n : Int) (b : List UInt8) (m M : Nat) (F : Ix → Int) (t : List UInt8) (i : Nat) (hi : i = m)  :
    RunsTo Tryd.prog 36 (headOf Tryd.f36 1) (envAt Tryd.f36.ntmps ([(3, vS (t)), (62, vL 62 1 m), (63, vN m), (64, vN (i : Nat))])) (Sx.look ([⟨62, false, none, 1, .ta M (.vi .i64 F)⟩] ++ ([]))) 80 (vS t) (Sx.look ([])) 150 := by
  refine runs_last baseRL (Sx.Ends.of (rla_p0 k n b m M F t i) ⟨?oo, ?rr⟩) (by kernel_rfl) rfl (gtL (by decide)) (by decide)
  case oo =>
    refine (okc ?_ okn)
    all_goals ((try simp (disch := omega) only [SS]); first | done | omega | assumption | (simp (disch := omega) only [SS] at *; first | done | omega | assumption) | (simp_all; done))
  case rr =>
    exact ⟨rfl, trivial⟩

theorem rlT (k n : Int) (b : List UInt8) (m M : Nat) (F : Ix → Int) (hM : m ≤ M) (hm : m ≤ 1100) (hr : rightR ⟨k, n, b, intsF F m⟩ = true) : RunsTo Tryd.prog 36 [.code (bodyOf Tryd.f36)] (envOf [.agg (.tc (.vi .i64 fun _ => k) (.tc (.vi .i64 fun _ => n) (.tc (.vs fun _ => b) (.tc (.vl 62 (fun _ => 0) 1 [] (fun _ => m)) .t0))))] Tryd.f36.ntmps) (Sx.look ([⟨62, false, none, 1, .ta M (.vi .i64 F)⟩] ++ ([]))) 80 (vS (lineR ⟨k, n, b, intsF F m⟩)) (Sx.look []) 150 := by
  obtain ⟨g1, g2, g3⟩ := right_in hr
  have q0 := itoa_len g1
  have hFi : ∀ i, i < m → 0 ≤ F [i] ∧ F [i] < 1024 := fun i hi => g2 _ (by rw [← intsF_get F hi]; exact getD_mem' (by rw [intsF_len]; exact hi))
  have hk : k = 1 ∨ ((k = 2 ∨ k = 3) ∧ 0 ≤ n ∧ n ≤ 9999) ∨ k = 4 := by
    have hr := hr
    unfold rightR at hr
    split at hr
    · exact .inl (by assumption)
    · split at hr
      · rw [decide_eq_true_eq] at hr; exact .inr (.inl ⟨by assumption, hr.1, hr.2.1⟩)
      · split at hr
        · exact .inr (.inr (by assumption))
        · cases hr
  unfold lineR
  rcases hk with hk | ⟨hk | hk, h0, h9⟩ | hk
  · rw [if_neg (by show ¬ k = 2; omega), if_neg (by show ¬ k = 3; omega), if_neg (by show ¬ k = 4; omega)]
    have e2 : (intsF F m = []) = (m = 0) := by rw [← List.length_eq_zero_iff, intsF_len]
    have g3 : b.length ≤ 1024 := g3
    refine rl1 k n b m M F (by omega) (by omega) (by omega) _ _ ?_
    -- the marks
    have marks : ∀ t : List UInt8, t.length ≤ 100000 → RunsTo Tryd.prog 36 (headOf Tryd.f36 1) (envAt Tryd.f36.ntmps ([(3, vS (t)), (62, vL 62 1 m), (63, vN m), (64, vN (0 : Nat))])) (Sx.look ([⟨62, false, none, 1, .ta M (.vi .i64 F)⟩] ++ ([]))) 80 (vS (if m = 0 then t else (t ++ [32, 109, 97, 114, 107, 115, 32]) ++ joinR 44 ((intsF F m).map Lib.itoa))) (Sx.look []) 150 := by
      intro t ht
      by_cases hm0 : m = 0
      · rw [if_pos hm0]; exact rla k n b m M F t 0 (by omega)
      rw [if_neg hm0]
      have hx := hFi 0 (by omega)
      refine rl8 k n b m M F t 0 (F [0]) (by omega) rfl rfl hx.1 (by omega) (itoa_len (inN_of (by omega))) hM (by omega) (by omega) _ _ ?_
      suffices q : ∀ (j i : Nat), i + 1 + j = m → RunsTo Tryd.prog 36 (headOf Tryd.f36 1) (envAt Tryd.f36.ntmps ([(3, vS ((t ++ [32, 109, 97, 114, 107, 115, 32]) ++ joinR 44 (((intsF F m).take (i + 1)).map Lib.itoa))), (62, vL 62 1 m), (63, vN m), (64, vN (i + 1 : Nat))])) (Sx.look ([⟨62, false, none, 1, .ta M (.vi .i64 F)⟩] ++ ([]))) 80 (vS ((t ++ [32, 109, 97, 114, 107, 115, 32]) ++ joinR 44 ((intsF F m).map Lib.itoa))) (Sx.look []) 150 from by
        have := q (m - 1) 0 (by omega)
        rw [intsF_take F (show 0 < m by omega)] at this
        exact this
      intro j
      induction j with
      | zero =>
        intro i hi
        have : (intsF F m).take (i + 1) = intsF F m := List.take_of_length_le (by rw [intsF_len]; omega)
        rw [this]
        exact rla k n b m M F _ (i + 1) (by omega)
      | succ j ih =>
        intro i hi
        have hx := hFi (i + 1) (by omega)
        have := ih (i + 1) (by omega)
        rw [intsF_take F (show i + 1 < m by omega), List.map_append, List.map_singleton, joinR_snoc 44 _ _ (by
          intro e
          have := congrArg List.length e
          rw [List.length_map, List.length_take, intsF_len] at this
          simp at this; omega)] at this
        have hl := joinR_le 44 (((intsF F m).take (i + 1)).map Lib.itoa) (fun a ha => by
          obtain ⟨x, hx, rfl⟩ := List.mem_map.1 ha
          have := g2 x (List.mem_of_mem_take hx)
          exact itoa_len (inN_of (by omega)))
        rw [List.length_map, List.length_take, intsF_len] at hl
        refine rl9 k n b m M F _ (i + 1) (F [i + 1]) (by omega) (by omega) rfl hx.1 (by omega) (itoa_len (inN_of (by omega))) hM (by omega) (by simp only [List.length_append, List.length_cons, List.length_nil]; omega) _ _ ?_
        simp only [List.append_assoc, List.cons_append, List.nil_append] at this ⊢
        exact this
    -- the bytes
    suffices q : ∀ (j i : Nat), i + j = b.length → RunsTo Tryd.prog 36 (headOf Tryd.f36 0) (envAt Tryd.f36.ntmps ([(1, vP 101), (3, vS ([98, 121, 116, 101, 115, 32] ++ hexT (b.take i))), (4, vN (i : Nat))])) (Sx.look ([⟨62, false, none, 1, .ta M (.vi .i64 F)⟩] ++ ([⟨101, true, none, 139000004, (.tc (.vi .i64 fun _ => k) (.tc (.vi .i64 fun _ => n) (.tc (.vs fun _ => b) (.tc (.vl 62 (fun _ => 0) 1 [] (fun _ => m)) .t0))))⟩]))) 80 (vS (if ({ K := k, N := n, B := b, M := intsF F m } : RawR.Ev).M = [] then wBytes ++ 32 :: toldR ({ K := k, N := n, B := b, M := intsF F m } : RawR.Ev).B else wBytes ++ 32 :: (toldR ({ K := k, N := n, B := b, M := intsF F m } : RawR.Ev).B ++ 32 :: (wMarks ++ 32 :: placesR ({ K := k, N := n, B := b, M := intsF F m } : RawR.Ev).M)))) (Sx.look []) 150 from by
      have := q b.length 0 (by omega)
      simpa [hexT] using this
    intro j
    induction j with
    | zero =>
      intro i hi
      have ht : b.take i = b := List.take_of_length_le (by omega)
      have hl := hexT_len b
      rw [ht]
      have fin : ∀ t, t = [98, 121, 116, 101, 115, 32] ++ toldR b → RunsTo Tryd.prog 36 (headOf Tryd.f36 1) (envAt Tryd.f36.ntmps ([(3, vS (t)), (62, vL 62 1 m), (63, vN m), (64, vN (0 : Nat))])) (Sx.look ([⟨62, false, none, 1, .ta M (.vi .i64 F)⟩] ++ ([]))) 80 (vS (if m = 0 then t else (t ++ [32, 109, 97, 114, 107, 115, 32]) ++ joinR 44 ((intsF F m).map Lib.itoa))) (Sx.look []) 150 → RunsTo Tryd.prog 36 (headOf Tryd.f36 1) (envAt Tryd.f36.ntmps ([(3, vS (t)), (62, vL 62 1 m), (63, vN m), (64, vN (0 : Nat))])) (Sx.look ([⟨62, false, none, 1, .ta M (.vi .i64 F)⟩] ++ ([]))) 80 (vS (if ({ K := k, N := n, B := b, M := intsF F m } : RawR.Ev).M = [] then wBytes ++ 32 :: toldR ({ K := k, N := n, B := b, M := intsF F m } : RawR.Ev).B else wBytes ++ 32 :: (toldR ({ K := k, N := n, B := b, M := intsF F m } : RawR.Ev).B ++ 32 :: (wMarks ++ 32 :: placesR ({ K := k, N := n, B := b, M := intsF F m } : RawR.Ev).M)))) (Sx.look []) 150 := by
        intro t e h
        subst e
        have e3 : (if m = 0 then [98, 121, 116, 101, 115, 32] ++ toldR b else ([98, 121, 116, 101, 115, 32] ++ toldR b ++ [32, 109, 97, 114, 107, 115, 32]) ++ joinR 44 ((intsF F m).map Lib.itoa)) = (if ({ K := k, N := n, B := b, M := intsF F m } : RawR.Ev).M = [] then wBytes ++ 32 :: toldR ({ K := k, N := n, B := b, M := intsF F m } : RawR.Ev).B else wBytes ++ 32 :: (toldR ({ K := k, N := n, B := b, M := intsF F m } : RawR.Ev).B ++ 32 :: (wMarks ++ 32 :: placesR ({ K := k, N := n, B := b, M := intsF F m } : RawR.Ev).M))) := by
          by_cases hm0 : m = 0
          · rw [if_pos hm0, if_pos (by show intsF F m = []; rw [e2]; exact hm0)]; rfl
          · rw [if_neg hm0, if_neg (by show ¬ intsF F m = []; rw [e2]; exact hm0)]
            simp [wBytes, wMarks, placesR]
        rw [← e3]
        exact h
      by_cases hz : b = []
      · refine rl7 k n b m M F _ i (by omega) hz (by simp; omega) _ _ ?_
        refine fin _ ?_ (marks _ (by simp; omega))
        rw [hz]; rfl
      · refine rl6 k n b m M F _ i (by omega) hz (by omega) _ _ ?_
        refine fin _ ?_ (marks _ (by simp; omega))
        unfold toldR; rw [if_neg hz]; rfl
    | succ j ih =>
      intro i hi
      have hl : (hexT (b.take i)).length ≤ 2 * 1024 := by rw [hexT_len, List.length_take]; omega
      refine rl5 k n b m M F _ i (b.getD i 0) (by omega) (by omega) rfl (by simp only [List.length_append, List.length_cons, List.length_nil]; omega) _ _ ?_
      have := ih (i + 1) (by omega)
      rw [hexT_snoc b (show i < b.length by omega)] at this
      rw [List.append_assoc]
      exact this
  · rw [if_pos (show k = 2 from hk)]; exact rl2 k n b m M F hk q0 h0 h9
  · rw [if_neg (by show ¬ k = 2; omega), if_pos (show k = 3 from hk)]; exact rl3 k n b m M F hk q0 h0 h9
  · rw [if_neg (by show ¬ k = 2; omega), if_neg (by show ¬ k = 3; omega), if_pos (show k = 4 from hk)]; exact rl4 k n b m M F hk
def rlP : PC := { args := [.agg (.tc (.vi .i64 0) (.tc (.vi .i64 1) (.tc (.vs 2) (.tc (.vl 62 1 3) .t0))))], heap := [⟨62, false, 1, .ta 7 (.vi .i64 8)⟩], gs := [], G := 24, tp := 194, n := 80, n' := 150, cond := fun e => decide (eN e 3 ≤ eN e 7) && (decide (eN e 3 ≤ 1100) && rightR ⟨eI e 0 [], eI e 1 [], eS e 2 [], intsF (eI e 8) (eN e 3)⟩), v := fun e => vS (lineR ⟨eI e 0 [], eI e 1 [], eS e 2 [], intsF (eI e 8) (eN e 3)⟩), post := fun e => [] }
theorem rlP_pc : PC.Runs Tryd.prog 36 Tryd.f36 (bodyOf Tryd.f36) rlP := ⟨Tryd.func36, by kernel_rfl, (fun g hg => by first | (cases hg; done) | (revert g; show ∀ g ∈ ([] : List Nat), g < 24; decide)), fun e H hc => by
  have hc : (decide (eN e 3 ≤ eN e 7) && (decide (eN e 3 ≤ 1100) && rightR ⟨eI e 0 [], eI e 1 [], eS e 2 [], intsF (eI e 8) (eN e 3)⟩)) = true := hc
  try simp only [Bool.and_eq_true, decide_eq_true_eq, Nat.beq_eq] at hc
  exact rlT (eI e 0 []) (eI e 1 []) (eS e 2 []) (eN e 3) (eN e 7) (eI e 8) hc.1 hc.2.1 hc.2.2⟩
theorem st0_p0 (n m M N : Nat) (F U : Ix → Int) :
    isEnd (evTill Tryd.prog [] 300 (99) 900 56 [.code (bodyOf Tryd.f56)] (envOf [vL 62 1 n, vL 64 1 m] Tryd.f56.ntmps) (([⟨62, false, none, 1, .ta M (.vi .i64 F)⟩] ++ [⟨64, false, none, 1, .ta N (.vi .i64 U)⟩]) ++ ([])) ⟨[.s true], 80⟩) (endP ([]) (vB false) ([]) 115) =
    (OkL [((↑n : Int) != (↑m : Int), true)] ∧ false = false ∧ True) := by kernel_rfl

set_option maxHeartbeats 4000000 in
theorem st0 (n m M N : Nat) (F U : Ix → Int) (h : n ≠ m)  :
    RunsTo Tryd.prog 56 [.code (bodyOf Tryd.f56)] (envOf [vL 62 1 n, vL 64 1 m] Tryd.f56.ntmps) (Sx.look (([⟨62, false, none, 1, .ta M (.vi .i64 F)⟩] ++ [⟨64, false, none, 1, .ta N (.vi .i64 U)⟩]) ++ ([]))) 80 (vB false) (Sx.look ([])) 115 := by
  refine runs_last baseO (Sx.Ends.of (st0_p0 n m M N F U) ⟨?oo, ?rr⟩) (by kernel_rfl) rfl (gtL (by decide)) (by decide)
  case oo =>
    refine (okc ?_ okn)
    all_goals ((try simp (disch := omega) only [SS]); first | done | omega | assumption | (simp (disch := omega) only [SS] at *; first | done | omega | assumption) | (simp_all; done))
  case rr =>
    try simp (disch := omega) only [SS]
    repeat' apply And.intro
    all_goals first | exact True.intro | with_reducible rfl | omega | (intros; first | exact True.intro | with_reducible rfl | omega | (simp_all; done)) | (simp_all; done) | rfl

theorem st1_p0 (n m M N : Nat) (F U : Ix → Int) :
    isMore (evTill Tryd.prog [] 300 (behind Tryd.f56 0) 900 56 [.code (bodyOf Tryd.f56)] (envOf [vL 62 1 n, vL 64 1 m] Tryd.f56.ntmps) (([⟨62, false, none, 1, .ta M (.vi .i64 F)⟩] ++ [⟨64, false, none, 1, .ta N (.vi .i64 U)⟩]) ++ ([])) ⟨[.s false], 80⟩) (moreP (headOf Tryd.f56 0) ([]) Tryd.f56.ntmps ([(1, vL 64 1 m), (12, vL 62 1 n), (13, vN n), (14, vN (0 : Nat))]) ([]) 115) =
    (OkL [((↑n : Int) != (↑m : Int), false)] ∧ headOf Tryd.f56 (0 : Nat) = headOf Tryd.f56 (0 : Nat) ∧ (((0 : Nat) = (0 : Nat) ∧ m = m) ∧ ((0 : Nat) = (0 : Nat) ∧ n = n) ∧ (↑n : Int) = (↑n : Int) ∧ (↑(0 : Nat) : Int) = (0 : Int)) ∧ True) := by kernel_rfl

set_option maxHeartbeats 4000000 in
theorem st1 (n m M N : Nat) (F U : Ix → Int) (e : n = m)  (v : SV) (L' : HF) (next : RunsTo Tryd.prog 56 (headOf Tryd.f56 0) (envAt Tryd.f56.ntmps ([(1, vL 64 1 m), (12, vL 62 1 n), (13, vN n), (14, vN (0 : Nat))])) (Sx.look (([⟨62, false, none, 1, .ta M (.vi .i64 F)⟩] ++ [⟨64, false, none, 1, .ta N (.vi .i64 U)⟩]) ++ ([]))) 80 (v) (L') 115) :
    RunsTo Tryd.prog 56 [.code (bodyOf Tryd.f56)] (envOf [vL 62 1 n, vL 64 1 m] Tryd.f56.ntmps) (Sx.look (([⟨62, false, none, 1, .ta M (.vi .i64 F)⟩] ++ [⟨64, false, none, 1, .ta N (.vi .i64 U)⟩]) ++ ([]))) 80 (v) (L') 115 := by
  refine runs_more baseO (More.of (st1_p0 n m M N F U) ⟨?oo, rfl, ?rr⟩) (by kernel_rfl) (by kernel_rfl) rfl (gtL (by decide)) (by decide) next
  case oo =>
    clear next
    refine (okc ?_ okn)
    all_goals ((try simp (disch := omega) only [SS]); first | done | omega | assumption | (simp (disch := omega) only [SS] at *; first | done | omega | assumption) | (simp_all; done))
  case rr =>
    clear next
    try simp (disch := omega) only [SS]
    repeat' apply And.intro
    all_goals first | exact True.intro | with_reducible rfl | omega | (intros; first | exact True.intro | with_reducible rfl | omega | (simp_all; done)) | (simp_all; done) | rfl

theorem st2_p0 (n m M N : Nat) (F U : Ix → Int) (i : Nat) :
    isMore (evTill Tryd.prog [] 300 (behind Tryd.f56 0) 900 56 (headOf Tryd.f56 0) (envAt Tryd.f56.ntmps ([(1, vL 64 1 m), (12, vL 62 1 n), (13, vN n), (14, vN (i : Nat))])) (([⟨62, false, none, 1, .ta M (.vi .i64 F)⟩] ++ [⟨64, false, none, 1, .ta N (.vi .i64 U)⟩]) ++ ([])) ⟨[.s true, .s true, .s true, .s true, .s true, .s true, .s true, .s false], 110⟩) (moreP (headOf Tryd.f56 0) ([]) Tryd.f56.ntmps ([(1, vL 64 1 m), (12, vL 62 1 n), (13, vN n), (14, vN (i + 1 : Nat))]) ([]) 115) =
    (OkL [(decide ((↑i : Int) < (↑n : Int)), true), (decide ((0 : Int) ≤ (↑i : Int) ∧ (↑i : Int) < (↑n : Int)), true), (((0 : Nat) + (↑i : Int).toNat).blt M, true), (((0 : Nat) + (↑i : Int).toNat).blt M, true), (decide ((0 : Int) ≤ (↑i : Int) ∧ (↑i : Int) < (↑m : Int)), true), (((0 : Nat) + (↑i : Int).toNat).blt N, true), (((0 : Nat) + (↑i : Int).toNat).blt N, true), (F [(0 : Nat) + (↑i : Int).toNat] != U [(0 : Nat) + (↑i : Int).toNat], false)] ∧ headOf Tryd.f56 (0 : Nat) = headOf Tryd.f56 (0 : Nat) ∧ (((0 : Nat) = (0 : Nat) ∧ m = m) ∧ ((0 : Nat) = (0 : Nat) ∧ n = n) ∧ (↑n : Int) = (↑n : Int) ∧ (↑(i + (1 : Nat)) : Int) = IntKind.i64.wrap ((↑i : Int) + (1 : Int))) ∧ True) := by kernel_rfl

set_option maxHeartbeats 4000000 in
theorem st2 (n m M N : Nat) (F U : Ix → Int) (i : Nat) (hi : i < n) (e : n = m) (hM : n ≤ M) (hM2 : m ≤ N) (hn : n ≤ 100000) (h : F [i] = U [i])  (v : SV) (L' : HF) (next : RunsTo Tryd.prog 56 (headOf Tryd.f56 0) (envAt Tryd.f56.ntmps ([(1, vL 64 1 m), (12, vL 62 1 n), (13, vN n), (14, vN (i + 1 : Nat))])) (Sx.look (([⟨62, false, none, 1, .ta M (.vi .i64 F)⟩] ++ [⟨64, false, none, 1, .ta N (.vi .i64 U)⟩]) ++ ([]))) 80 (v) (L') 115) :
    RunsTo Tryd.prog 56 (headOf Tryd.f56 0) (envAt Tryd.f56.ntmps ([(1, vL 64 1 m), (12, vL 62 1 n), (13, vN n), (14, vN (i : Nat))])) (Sx.look (([⟨62, false, none, 1, .ta M (.vi .i64 F)⟩] ++ [⟨64, false, none, 1, .ta N (.vi .i64 U)⟩]) ++ ([]))) 80 (v) (L') 115 := by
  have hw : IntKind.i64.wrap ((i : Int) + 1) = ((i + 1 : Nat) : Int) := by rw [wr64 (by omega)]; rfl
  refine runs_more baseO (More.of (st2_p0 n m M N F U i) ⟨?oo, rfl, ?rr⟩) (by kernel_rfl) (by kernel_rfl) rfl (gtL (by decide)) (by decide) next
  case oo =>
    clear next
    refine (okc ?_ (okc ?_ (okc ?_ (okc ?_ (okc ?_ (okc ?_ (okc ?_ (okc ?_ okn))))))))
    all_goals ((try simp (disch := omega) only [SS, hw, h]); first | done | omega | assumption | (simp (disch := omega) only [SS, hw, h] at *; first | done | omega | assumption) | (simp_all; done))
  case rr =>
    clear next
    try simp (disch := omega) only [SS, hw, h]
    repeat' apply And.intro
    all_goals first | exact True.intro | with_reducible rfl | omega | (intros; first | exact True.intro | with_reducible rfl | omega | (simp_all; done)) | (simp_all; done) | rfl

theorem st3_p0 (n m M N : Nat) (F U : Ix → Int) (i : Nat) :
    isEnd (evTill Tryd.prog [] 300 (99) 900 56 (headOf Tryd.f56 0) (envAt Tryd.f56.ntmps ([(1, vL 64 1 m), (12, vL 62 1 n), (13, vN n), (14, vN (i : Nat))])) (([⟨62, false, none, 1, .ta M (.vi .i64 F)⟩] ++ [⟨64, false, none, 1, .ta N (.vi .i64 U)⟩]) ++ ([])) ⟨[.s true, .s true, .s true, .s true, .s true, .s true, .s true, .s true], 110⟩) (endP ([]) (vB false) ([]) 115) =
    (OkL [(decide ((↑i : Int) < (↑n : Int)), true), (decide ((0 : Int) ≤ (↑i : Int) ∧ (↑i : Int) < (↑n : Int)), true), (((0 : Nat) + (↑i : Int).toNat).blt M, true), (((0 : Nat) + (↑i : Int).toNat).blt M, true), (decide ((0 : Int) ≤ (↑i : Int) ∧ (↑i : Int) < (↑m : Int)), true), (((0 : Nat) + (↑i : Int).toNat).blt N, true), (((0 : Nat) + (↑i : Int).toNat).blt N, true), (F [(0 : Nat) + (↑i : Int).toNat] != U [(0 : Nat) + (↑i : Int).toNat], true)] ∧ false = false ∧ True) := by kernel_rfl

set_option maxHeartbeats 4000000 in
theorem st3 (n m M N : Nat) (F U : Ix → Int) (i : Nat) (hi : i < n) (e : n = m) (hM : n ≤ M) (hM2 : m ≤ N) (hn : n ≤ 100000) (h : F [i] ≠ U [i])  :
    RunsTo Tryd.prog 56 (headOf Tryd.f56 0) (envAt Tryd.f56.ntmps ([(1, vL 64 1 m), (12, vL 62 1 n), (13, vN n), (14, vN (i : Nat))])) (Sx.look (([⟨62, false, none, 1, .ta M (.vi .i64 F)⟩] ++ [⟨64, false, none, 1, .ta N (.vi .i64 U)⟩]) ++ ([]))) 80 (vB false) (Sx.look ([])) 115 := by
  have hw : IntKind.i64.wrap ((i : Int) + 1) = ((i + 1 : Nat) : Int) := by rw [wr64 (by omega)]; rfl
  refine runs_last baseO (Sx.Ends.of (st3_p0 n m M N F U i) ⟨?oo, ?rr⟩) (by kernel_rfl) rfl (gtL (by decide)) (by decide)
  case oo =>
    refine (okc ?_ (okc ?_ (okc ?_ (okc ?_ (okc ?_ (okc ?_ (okc ?_ (okc ?_ okn))))))))
    all_goals ((try simp (disch := omega) only [SS, hw, h]); first | done | omega | assumption | (simp (disch := omega) only [SS, hw, h] at *; first | done | omega | assumption) | (simp_all; done))
  case rr =>
    try simp (disch := omega) only [SS, hw, h]
    repeat' apply And.intro
    all_goals first | exact True.intro | with_reducible rfl | omega | (intros; first | exact True.intro | with_reducible rfl | omega | (simp_all; done)) | (simp_all; done) | rfl

theorem st4_p0 (n m M N : Nat) (F U : Ix → Int) (i : Nat) :
    isEnd (evTill Tryd.prog [] 300 (99) 900 56 (headOf Tryd.f56 0) (envAt Tryd.f56.ntmps ([(1, vL 64 1 m), (12, vL 62 1 n), (13, vN n), (14, vN (i : Nat))])) (([⟨62, false, none, 1, .ta M (.vi .i64 F)⟩] ++ [⟨64, false, none, 1, .ta N (.vi .i64 U)⟩]) ++ ([])) ⟨[.s false], 110⟩) (endP ([]) (YES) ([]) 115) =
    (OkL [(decide ((↑i : Int) < (↑n : Int)), false)] ∧ true = true ∧ True) := by kernel_rfl

set_option maxHeartbeats 4000000 in
theorem st4 (n m M N : Nat) (F U : Ix → Int) (i : Nat) (hi : i = n)  :
    RunsTo Tryd.prog 56 (headOf Tryd.f56 0) (envAt Tryd.f56.ntmps ([(1, vL 64 1 m), (12, vL 62 1 n), (13, vN n), (14, vN (i : Nat))])) (Sx.look (([⟨62, false, none, 1, .ta M (.vi .i64 F)⟩] ++ [⟨64, false, none, 1, .ta N (.vi .i64 U)⟩]) ++ ([]))) 80 (YES) (Sx.look ([])) 115 := by
  refine runs_last baseO (Sx.Ends.of (st4_p0 n m M N F U i) ⟨?oo, ?rr⟩) (by kernel_rfl) rfl (gtL (by decide)) (by decide)
  case oo =>
    refine (okc ?_ okn)
    all_goals ((try simp (disch := omega) only [SS]); first | done | omega | assumption | (simp (disch := omega) only [SS] at *; first | done | omega | assumption) | (simp_all; done))
  case rr =>
    try simp (disch := omega) only [SS]
    repeat' apply And.intro
    all_goals first | exact True.intro | with_reducible rfl | omega | (intros; first | exact True.intro | with_reducible rfl | omega | (simp_all; done)) | (simp_all; done) | rfl

theorem stT (n m M N : Nat) (F U : Ix → Int) (hM : n ≤ M) (hM2 : m ≤ N) (hn : n ≤ 100000) : RunsTo Tryd.prog 56 [.code (bodyOf Tryd.f56)] (envOf [vL 62 1 n, vL 64 1 m] Tryd.f56.ntmps) (Sx.look (([⟨62, false, none, 1, .ta M (.vi .i64 F)⟩] ++ [⟨64, false, none, 1, .ta N (.vi .i64 U)⟩]) ++ ([]))) 80 (vB (eqI n m F U)) (Sx.look []) 115 := by
  unfold eqI
  by_cases h : n = m
  · refine st1 n m M N F U h _ _ ?_
    rw [decide_eq_true h, Bool.true_and]
    exact all_loop (R := fun i b => RunsTo Tryd.prog 56 (headOf Tryd.f56 0) (envAt Tryd.f56.ntmps ([(1, vL 64 1 m), (12, vL 62 1 n), (13, vN n), (14, vN (i : Nat))])) (Sx.look (([⟨62, false, none, 1, .ta M (.vi .i64 F)⟩] ++ [⟨64, false, none, 1, .ta N (.vi .i64 U)⟩]) ++ ([]))) 80 (vB b) (Sx.look []) 115) (fun i hi hk b q => st2 n m M N F U i hi h hM hM2 hn (of_decide_eq_true hk) _ _ q) (fun i hi hk => st3 n m M N F U i hi h hM hM2 hn (of_decide_eq_false hk)) (st4 n m M N F U n rfl)
  · rw [decide_eq_false h, Bool.false_and]; exact st0 n m M N F U h
def stP : PC := { args := [.v (.vl 62 1 0), .v (.vl 64 1 1)], heap := [⟨62, false, 1, .ta 5 (.vi .i64 6)⟩, ⟨64, false, 1, .ta 7 (.vi .i64 8)⟩], gs := [], G := 24, tp := 194, n := 80, n' := 115, cond := fun e => decide (eN e 0 ≤ eN e 5) && (decide (eN e 1 ≤ eN e 7) && decide (eN e 0 ≤ 100000)), v := fun e => vB (eqI (eN e 0) (eN e 1) (eI e 6) (eI e 8)), post := fun e => [] }
theorem stP_pc : PC.Runs Tryd.prog 56 Tryd.f56 (bodyOf Tryd.f56) stP := ⟨Tryd.func56, by kernel_rfl, (fun g hg => by first | (cases hg; done) | (revert g; show ∀ g ∈ ([] : List Nat), g < 24; decide)), fun e H hc => by
  have hc : (decide (eN e 0 ≤ eN e 5) && (decide (eN e 1 ≤ eN e 7) && decide (eN e 0 ≤ 100000))) = true := hc
  try simp only [Bool.and_eq_true, decide_eq_true_eq, Nat.beq_eq] at hc
  exact stT (eN e 0) (eN e 1) (eN e 5) (eN e 7) (eI e 6) (eI e 8) hc.1 hc.2.1 hc.2.2⟩
def sumsRS : List (FuncId × Summ) := [(56, stP.summ 48)]
theorem baseRS : Base0 Tryd.prog sumsRS := (baseO.cons Tryd.func56 (by kernel_rfl) (PC.summ_ok stP_pc gtopG))
theorem rsT_p0 (k n : Int) (b : List UInt8) (m M : Nat) (F : Ix → Int) (k' n' : Int) (b' : List UInt8) (m' M' : Nat) (F' : Ix → Int) :
    isEnd (evTill Tryd.prog sumsRS 300 (99) 900 38 [.code (bodyOf Tryd.f38)] (envOf [.agg (.tc (.vi .i64 fun _ => k) (.tc (.vi .i64 fun _ => n) (.tc (.vs fun _ => b) (.tc (.vl 62 (fun _ => 0) 1 [] (fun _ => m)) .t0)))), .agg (.tc (.vi .i64 fun _ => k') (.tc (.vi .i64 fun _ => n') (.tc (.vs fun _ => b') (.tc (.vl 64 (fun _ => 0) 1 [] (fun _ => m')) .t0))))] Tryd.f38.ntmps) (([⟨62, false, none, 1, .ta M (.vi .i64 F)⟩] ++ [⟨64, false, none, 1, .ta M' (.vi .i64 F')⟩]) ++ ([])) ⟨[.s false], 80⟩) (endP ([]) (vB (sameT k n k' n' b b' m m' F F')) ([]) 120) =
    (OkL [(k == k', false)] ∧ sameT k n k' n' b b' m m' F F' = false ∧ True) := by kernel_rfl
theorem rsT_p1 (k n : Int) (b : List UInt8) (m M : Nat) (F : Ix → Int) (k' n' : Int) (b' : List UInt8) (m' M' : Nat) (F' : Ix → Int) :
    isEnd (evTill Tryd.prog sumsRS 300 (99) 900 38 [.code (bodyOf Tryd.f38)] (envOf [.agg (.tc (.vi .i64 fun _ => k) (.tc (.vi .i64 fun _ => n) (.tc (.vs fun _ => b) (.tc (.vl 62 (fun _ => 0) 1 [] (fun _ => m)) .t0)))), .agg (.tc (.vi .i64 fun _ => k') (.tc (.vi .i64 fun _ => n') (.tc (.vs fun _ => b') (.tc (.vl 64 (fun _ => 0) 1 [] (fun _ => m')) .t0))))] Tryd.f38.ntmps) (([⟨62, false, none, 1, .ta M (.vi .i64 F)⟩] ++ [⟨64, false, none, 1, .ta M' (.vi .i64 F')⟩]) ++ ([])) ⟨[.s true, .s false], 80⟩) (endP ([]) (vB (sameT k n k' n' b b' m m' F F')) ([]) 120) =
    (OkL [(k == k', true), (n == n', false)] ∧ sameT k n k' n' b b' m m' F F' = false ∧ True) := by kernel_rfl
theorem rsT_p2 (k n : Int) (b : List UInt8) (m M : Nat) (F : Ix → Int) (k' n' : Int) (b' : List UInt8) (m' M' : Nat) (F' : Ix → Int) :
    isEnd (evTill Tryd.prog sumsRS 300 (99) 900 38 [.code (bodyOf Tryd.f38)] (envOf [.agg (.tc (.vi .i64 fun _ => k) (.tc (.vi .i64 fun _ => n) (.tc (.vs fun _ => b) (.tc (.vl 62 (fun _ => 0) 1 [] (fun _ => m)) .t0)))), .agg (.tc (.vi .i64 fun _ => k') (.tc (.vi .i64 fun _ => n') (.tc (.vs fun _ => b') (.tc (.vl 64 (fun _ => 0) 1 [] (fun _ => m')) .t0))))] Tryd.f38.ntmps) (([⟨62, false, none, 1, .ta M (.vi .i64 F)⟩] ++ [⟨64, false, none, 1, .ta M' (.vi .i64 F')⟩]) ++ ([])) ⟨[.s true, .s true, .s false], 80⟩) (endP ([]) (vB (sameT k n k' n' b b' m m' F F')) ([]) 120) =
    (OkL [(k == k', true), (n == n', true), (b == b', false)] ∧ sameT k n k' n' b b' m m' F F' = false ∧ True) := by kernel_rfl
theorem rsT_p3 (k n : Int) (b : List UInt8) (m M : Nat) (F : Ix → Int) (k' n' : Int) (b' : List UInt8) (m' M' : Nat) (F' : Ix → Int) :
    isEnd (evTill Tryd.prog sumsRS 300 (99) 900 38 [.code (bodyOf Tryd.f38)] (envOf [.agg (.tc (.vi .i64 fun _ => k) (.tc (.vi .i64 fun _ => n) (.tc (.vs fun _ => b) (.tc (.vl 62 (fun _ => 0) 1 [] (fun _ => m)) .t0)))), .agg (.tc (.vi .i64 fun _ => k') (.tc (.vi .i64 fun _ => n') (.tc (.vs fun _ => b') (.tc (.vl 64 (fun _ => 0) 1 [] (fun _ => m')) .t0))))] Tryd.f38.ntmps) (([⟨62, false, none, 1, .ta M (.vi .i64 F)⟩] ++ [⟨64, false, none, 1, .ta M' (.vi .i64 F')⟩]) ++ ([])) ⟨[.s true, .s true, .s true, .s true], 80⟩) (endP ([]) (vB (sameT k n k' n' b b' m m' F F')) ([]) 120) =
    (OkL [(k == k', true), (n == n', true), (b == b', true), (decide (m ≤ M) && (decide (m' ≤ M') && decide (m ≤ (100000 : Nat))), true)] ∧ sameT k n k' n' b b' m m' F F' = eqI m m' F F' ∧ True) := by kernel_rfl

set_option maxHeartbeats 4000000 in
theorem rsT (k n : Int) (b : List UInt8) (m M : Nat) (F : Ix → Int) (k' n' : Int) (b' : List UInt8) (m' M' : Nat) (F' : Ix → Int) (h2 : m ≤ M) (h4 : m' ≤ M') (h5 : m ≤ 100000)  :
    RunsTo Tryd.prog 38 [.code (bodyOf Tryd.f38)] (envOf [.agg (.tc (.vi .i64 fun _ => k) (.tc (.vi .i64 fun _ => n) (.tc (.vs fun _ => b) (.tc (.vl 62 (fun _ => 0) 1 [] (fun _ => m)) .t0)))), .agg (.tc (.vi .i64 fun _ => k') (.tc (.vi .i64 fun _ => n') (.tc (.vs fun _ => b') (.tc (.vl 64 (fun _ => 0) 1 [] (fun _ => m')) .t0))))] Tryd.f38.ntmps) (Sx.look (([⟨62, false, none, 1, .ta M (.vi .i64 F)⟩] ++ [⟨64, false, none, 1, .ta M' (.vi .i64 F')⟩]) ++ ([]))) 80 (vB (sameT k n k' n' b b' m m' F F')) (Sx.look ([])) 120 := by
  refine bcase (c := (k == k')) (fun gg0 => ?_) (fun gg0 => ?_)
  · refine runs_last baseRS (Sx.Ends.of (rsT_p0 k n b m M F k' n' b' m' M' F') ⟨?oo, ?rr⟩) (by kernel_rfl) rfl (gtL (by decide)) (by decide)
    case oo =>
      refine (okc gg0 okn)
      all_goals first | rfl | assumption | exact ⟨h2, h4, h5⟩ | (simp (disch := omega) only [SS]; first | done | omega | exact ⟨h2, h4, h5⟩) | (simp_all; done)
    case rr =>
      refine ⟨?_, trivial⟩
      unfold sameT
      simp only [dT, dF, ieqT, ieqF] at *
      first | (simp_all; done) | (rw [Bool.eq_iff_iff]; simp_all; done)
  · refine bcase (c := (n == n')) (fun gg1 => ?_) (fun gg1 => ?_)
    · refine runs_last baseRS (Sx.Ends.of (rsT_p1 k n b m M F k' n' b' m' M' F') ⟨?oo, ?rr⟩) (by kernel_rfl) rfl (gtL (by decide)) (by decide)
      case oo =>
        refine (okc gg0 (okc gg1 okn))
        all_goals first | rfl | assumption | exact ⟨h2, h4, h5⟩ | (simp (disch := omega) only [SS]; first | done | omega | exact ⟨h2, h4, h5⟩) | (simp_all; done)
      case rr =>
        refine ⟨?_, trivial⟩
        unfold sameT
        simp only [dT, dF, ieqT, ieqF] at *
        first | (simp_all; done) | (rw [Bool.eq_iff_iff]; simp_all; done)
    · refine bcase (c := (b == b')) (fun gg2 => ?_) (fun gg2 => ?_)
      · refine runs_last baseRS (Sx.Ends.of (rsT_p2 k n b m M F k' n' b' m' M' F') ⟨?oo, ?rr⟩) (by kernel_rfl) rfl (gtL (by decide)) (by decide)
        case oo =>
          refine (okc gg0 (okc gg1 (okc gg2 okn)))
          all_goals first | rfl | assumption | exact ⟨h2, h4, h5⟩ | (simp (disch := omega) only [SS]; first | done | omega | exact ⟨h2, h4, h5⟩) | (simp_all; done)
        case rr =>
          refine ⟨?_, trivial⟩
          unfold sameT
          simp only [dT, dF, ieqT, ieqF] at *
          first | (simp_all; done) | (rw [Bool.eq_iff_iff]; simp_all; done)
      · refine runs_last baseRS (Sx.Ends.of (rsT_p3 k n b m M F k' n' b' m' M' F') ⟨?oo, ?rr⟩) (by kernel_rfl) rfl (gtL (by decide)) (by decide)
        case oo =>
          refine (okc gg0 (okc gg1 (okc gg2 (okc ?_ okn))))
          all_goals first | rfl | assumption | exact ⟨h2, h4, h5⟩ | (simp (disch := omega) only [SS]; first | done | omega | exact ⟨h2, h4, h5⟩) | (simp_all; done)
        case rr =>
          refine ⟨?_, trivial⟩
          unfold sameT
          simp only [dT, dF, ieqT, ieqF] at *
          first | (simp_all; done) | (rw [Bool.eq_iff_iff]; simp_all; done)

def rsP : PC := { args := [.agg (.tc (.vi .i64 0) (.tc (.vi .i64 1) (.tc (.vs 2) (.tc (.vl 62 1 3) .t0)))), .agg (.tc (.vi .i64 10) (.tc (.vi .i64 11) (.tc (.vs 12) (.tc (.vl 64 1 13) .t0))))], heap := [⟨62, false, 1, .ta 7 (.vi .i64 8)⟩, ⟨64, false, 1, .ta 17 (.vi .i64 18)⟩], gs := [], G := 24, tp := 194, n := 80, n' := 120, cond := fun e => decide (eN e 3 ≤ eN e 7) && (decide (eN e 13 ≤ eN e 17) && decide (eN e 3 ≤ 100000)), v := fun e => vB (sameT (eI e 0 []) (eI e 1 []) (eI e 10 []) (eI e 11 []) (eS e 2 []) (eS e 12 []) (eN e 3) (eN e 13) (eI e 8) (eI e 18)), post := fun e => [] }
theorem rsP_pc : PC.Runs Tryd.prog 38 Tryd.f38 (bodyOf Tryd.f38) rsP := ⟨Tryd.func38, by kernel_rfl, (fun g hg => by first | (cases hg; done) | (revert g; show ∀ g ∈ ([] : List Nat), g < 24; decide)), fun e H hc => by
  have hc : (decide (eN e 3 ≤ eN e 7) && (decide (eN e 13 ≤ eN e 17) && decide (eN e 3 ≤ 100000))) = true := hc
  try simp only [Bool.and_eq_true, decide_eq_true_eq, Nat.beq_eq] at hc
  exact rsT (eI e 0 []) (eI e 1 []) (eS e 2 []) (eN e 3) (eN e 7) (eI e 8) (eI e 10 []) (eI e 11 []) (eS e 12 []) (eN e 13) (eN e 17) (eI e 18) hc.1 hc.2.1 hc.2.2⟩
end Go.Proofs.YtankmgnjkcgpaaaDoor

set_option linter.unusedSimpArgs false
set_option linter.unusedVariables false
set_option maxRecDepth 100000
namespace Go.Proofs.YtankmgnjkcgpaaaDoor
open Go.Sx

open RawR
theorem by_len (B : Ix → Int) (n : Nat) : (bytesOf B [] 0 n).length = n := lenB_len B n
theorem sameV_T (k n k' n' : Int) (l m l' m' : Nat) (B B' F F' : Ix → Int) : sameV k n k' n' l m l' m' B B' F F' = sameT k n k' n' (bytesOf B [] 0 l) (bytesOf B' [] 0 l') m m' F F' := rfl
theorem lineV_T {k n : Int} {l m : Nat} {B F : Ix → Int} (h : rightV k n l m F = true) : lineV k n l m B F = lineR ⟨k, n, bytesOf B [] 0 l, intsF F m⟩ := if_pos h
theorem lineV_N {k n : Int} {l m : Nat} {B F : Ix → Int} (h : rightV k n l m F = false) : lineV k n l m B F = [] := if_neg (by rw [h]; decide)
theorem rightR_T {k n : Int} {l m : Nat} {B F : Ix → Int} (h : rightV k n l m F = true) : rightR ⟨k, n, bytesOf B [] 0 l, intsF F m⟩ = true := by
  have := rightV_eq k n l m B F
  rw [h] at this
  exact this
theorem rightV_B {k n : Int} {l m : Nat} {B F : Ix → Int} : rightV k n (bytesOf B [] 0 l).length m F = rightV k n l m F := by rw [by_len]
def sumsEL : List (FuncId × Summ) := [(28, avP.summ 48), (31, rgP.summ 48), (32, lnP.summ 48), (33, smP.summ 48), (35, rrP.summ 48), (36, rlP.summ 48), (38, rsP.summ 48)]
theorem baseEL : Base0 Tryd.prog sumsEL := (((((((baseO.cons Tryd.func38 (by kernel_rfl) (PC.summ_ok rsP_pc gtopG)).cons Tryd.func36 (by kernel_rfl) (PC.summ_ok rlP_pc gtopG)).cons Tryd.func35 (by kernel_rfl) (PC.summ_ok rrP_pc gtopG)).cons Tryd.func33 (by kernel_rfl) (PC.summ_ok smP_pc gtopG)).cons Tryd.func32 (by kernel_rfl) (PC.summ_ok lnP_pc gtopG)).cons Tryd.func31 (by kernel_rfl) (PC.summ_ok rgP_pc gtopG)).cons Tryd.func28 (by kernel_rfl) (PC.summ_ok avP_pc gtopG))
theorem el0_p0 (t0 t1 t2 : List UInt8) (P : Ix → Int) (k n : Int) (l m : Nat) (B F : Ix → Int) (k' n' : Int) (l' m' : Nat) (B' F' : Ix → Int) :
    isEnd (evTill Tryd.prog sumsEL 800 (99) 900 7 [.code (bodyOf Tryd.f7)] (envOf [.agg (.tc (.vi .i64 fun _ => k) (.tc (.vi .i64 fun _ => n) (.tc (.vl 100 (fun _ => 0) 1 [] (fun _ => l)) (.tc (.vl 101 (fun _ => 0) 1 [] (fun _ => m)) .t0)))), .agg (.tc (.vi .i64 fun _ => k') (.tc (.vi .i64 fun _ => n') (.tc (.vl 102 (fun _ => 0) 1 [] (fun _ => l')) (.tc (.vl 103 (fun _ => 0) 1 [] (fun _ => m')) .t0))))] Tryd.f7.ntmps) ((rbS t0 t1 t2 ++ (pwF P ++ (([⟨100, false, none, 1, .ta l (.vi .u8 B)⟩] ++ [⟨101, false, none, 1, .ta m (.vi .i64 F)⟩]) ++ ([⟨102, false, none, 1, .ta l' (.vi .u8 B')⟩] ++ [⟨103, false, none, 1, .ta m' (.vi .i64 F')⟩])))) ++ ([])) ⟨[.s true, .f, .s false, .s false, .s false, .s true], 110⟩) (endP ([]) (YES) ([]) 6000) =
    (OkL [(pwOK P, true), (decide ((↑l : Int) > (1100 : Int)), false), (decide ((↑m : Int) > (200 : Int)), false), (decide ((↑l' : Int) > (1100 : Int)), false), (decide ((↑m' : Int) > (200 : Int)), true)] ∧ true = true ∧ True) := by kernel_rfl
theorem el0_p1 (t0 t1 t2 : List UInt8) (P : Ix → Int) (k n : Int) (l m : Nat) (B F : Ix → Int) (k' n' : Int) (l' m' : Nat) (B' F' : Ix → Int) :
    isEnd (evTill Tryd.prog sumsEL 800 (99) 900 7 [.code (bodyOf Tryd.f7)] (envOf [.agg (.tc (.vi .i64 fun _ => k) (.tc (.vi .i64 fun _ => n) (.tc (.vl 100 (fun _ => 0) 1 [] (fun _ => l)) (.tc (.vl 101 (fun _ => 0) 1 [] (fun _ => m)) .t0)))), .agg (.tc (.vi .i64 fun _ => k') (.tc (.vi .i64 fun _ => n') (.tc (.vl 102 (fun _ => 0) 1 [] (fun _ => l')) (.tc (.vl 103 (fun _ => 0) 1 [] (fun _ => m')) .t0))))] Tryd.f7.ntmps) ((rbS t0 t1 t2 ++ (pwF P ++ (([⟨100, false, none, 1, .ta l (.vi .u8 B)⟩] ++ [⟨101, false, none, 1, .ta m (.vi .i64 F)⟩]) ++ ([⟨102, false, none, 1, .ta l' (.vi .u8 B')⟩] ++ [⟨103, false, none, 1, .ta m' (.vi .i64 F')⟩])))) ++ ([])) ⟨[.s true, .f, .s false, .s false, .s true, .t], 110⟩) (endP ([]) (YES) ([]) 6000) =
    (OkL [(pwOK P, true), (decide ((↑l : Int) > (1100 : Int)), false), (decide ((↑m : Int) > (200 : Int)), false), (decide ((↑l' : Int) > (1100 : Int)), true)] ∧ true = true ∧ True) := by kernel_rfl
theorem el0_p2 (t0 t1 t2 : List UInt8) (P : Ix → Int) (k n : Int) (l m : Nat) (B F : Ix → Int) (k' n' : Int) (l' m' : Nat) (B' F' : Ix → Int) :
    isEnd (evTill Tryd.prog sumsEL 800 (99) 900 7 [.code (bodyOf Tryd.f7)] (envOf [.agg (.tc (.vi .i64 fun _ => k) (.tc (.vi .i64 fun _ => n) (.tc (.vl 100 (fun _ => 0) 1 [] (fun _ => l)) (.tc (.vl 101 (fun _ => 0) 1 [] (fun _ => m)) .t0)))), .agg (.tc (.vi .i64 fun _ => k') (.tc (.vi .i64 fun _ => n') (.tc (.vl 102 (fun _ => 0) 1 [] (fun _ => l')) (.tc (.vl 103 (fun _ => 0) 1 [] (fun _ => m')) .t0))))] Tryd.f7.ntmps) ((rbS t0 t1 t2 ++ (pwF P ++ (([⟨100, false, none, 1, .ta l (.vi .u8 B)⟩] ++ [⟨101, false, none, 1, .ta m (.vi .i64 F)⟩]) ++ ([⟨102, false, none, 1, .ta l' (.vi .u8 B')⟩] ++ [⟨103, false, none, 1, .ta m' (.vi .i64 F')⟩])))) ++ ([])) ⟨[.s true, .f, .s false, .s true], 110⟩) (endP ([]) (YES) ([]) 6000) =
    (OkL [(pwOK P, true), (decide ((↑l : Int) > (1100 : Int)), false), (decide ((↑m : Int) > (200 : Int)), true)] ∧ true = true ∧ True) := by kernel_rfl
theorem el0_p3 (t0 t1 t2 : List UInt8) (P : Ix → Int) (k n : Int) (l m : Nat) (B F : Ix → Int) (k' n' : Int) (l' m' : Nat) (B' F' : Ix → Int) :
    isEnd (evTill Tryd.prog sumsEL 800 (99) 900 7 [.code (bodyOf Tryd.f7)] (envOf [.agg (.tc (.vi .i64 fun _ => k) (.tc (.vi .i64 fun _ => n) (.tc (.vl 100 (fun _ => 0) 1 [] (fun _ => l)) (.tc (.vl 101 (fun _ => 0) 1 [] (fun _ => m)) .t0)))), .agg (.tc (.vi .i64 fun _ => k') (.tc (.vi .i64 fun _ => n') (.tc (.vl 102 (fun _ => 0) 1 [] (fun _ => l')) (.tc (.vl 103 (fun _ => 0) 1 [] (fun _ => m')) .t0))))] Tryd.f7.ntmps) ((rbS t0 t1 t2 ++ (pwF P ++ (([⟨100, false, none, 1, .ta l (.vi .u8 B)⟩] ++ [⟨101, false, none, 1, .ta m (.vi .i64 F)⟩]) ++ ([⟨102, false, none, 1, .ta l' (.vi .u8 B')⟩] ++ [⟨103, false, none, 1, .ta m' (.vi .i64 F')⟩])))) ++ ([])) ⟨[.s true, .f, .s true, .t], 110⟩) (endP ([]) (YES) ([]) 6000) =
    (OkL [(pwOK P, true), (decide ((↑l : Int) > (1100 : Int)), true)] ∧ true = true ∧ True) := by kernel_rfl

set_option maxHeartbeats 4000000 in
theorem el0 (t0 t1 t2 : List UInt8) (P : Ix → Int) (k n : Int) (l m : Nat) (B F : Ix → Int) (k' n' : Int) (l' m' : Nat) (B' F' : Ix → Int) (hP : pwOK P = true) (hB : bndB B l = true) (hF : rangeI F m = true) (hn : inN n = true) (hB' : bndB B' l' = true) (hF' : rangeI F' m' = true) (hn' : inN n' = true) (h : 1100 < l ∨ 200 < m ∨ 1100 < l' ∨ 200 < m')  :
    RunsTo Tryd.prog 7 [.code (bodyOf Tryd.f7)] (envOf [.agg (.tc (.vi .i64 fun _ => k) (.tc (.vi .i64 fun _ => n) (.tc (.vl 100 (fun _ => 0) 1 [] (fun _ => l)) (.tc (.vl 101 (fun _ => 0) 1 [] (fun _ => m)) .t0)))), .agg (.tc (.vi .i64 fun _ => k') (.tc (.vi .i64 fun _ => n') (.tc (.vl 102 (fun _ => 0) 1 [] (fun _ => l')) (.tc (.vl 103 (fun _ => 0) 1 [] (fun _ => m')) .t0))))] Tryd.f7.ntmps) (Sx.look ((rbS t0 t1 t2 ++ (pwF P ++ (([⟨100, false, none, 1, .ta l (.vi .u8 B)⟩] ++ [⟨101, false, none, 1, .ta m (.vi .i64 F)⟩]) ++ ([⟨102, false, none, 1, .ta l' (.vi .u8 B')⟩] ++ [⟨103, false, none, 1, .ta m' (.vi .i64 F')⟩])))) ++ ([]))) 110 (YES) (Sx.look ([])) 6000 := by
  refine bcase (c := (decide ((↑l : Int) > (1100 : Int)))) (fun gg0 => ?_) (fun gg0 => ?_)
  · refine bcase (c := (decide ((↑m : Int) > (200 : Int)))) (fun gg1 => ?_) (fun gg1 => ?_)
    · refine bcase (c := (decide ((↑l' : Int) > (1100 : Int)))) (fun gg2 => ?_) (fun gg2 => ?_)
      · refine runs_last baseEL (Sx.Ends.of (el0_p0 t0 t1 t2 P k n l m B F k' n' l' m' B' F') ⟨?oo, ?rr⟩) (by kernel_rfl) rfl (gtL (by decide)) (by decide)
        case oo =>
          refine (okc ?_ (okc gg0 (okc gg1 (okc gg2 (okc ?_ okn)))))
          all_goals first | exact hP | rfl | omega | (simp only [SS]; first | done | omega) | (simp_all; done) | (simp_all; omega)
        case rr =>
          try simp (disch := omega) only [SS]
          repeat' apply And.intro
          all_goals first | exact True.intro | with_reducible rfl | omega | (intros; first | exact True.intro | with_reducible rfl | omega | (simp_all; done)) | (simp_all; done) | rfl
      · refine runs_last baseEL (Sx.Ends.of (el0_p1 t0 t1 t2 P k n l m B F k' n' l' m' B' F') ⟨?oo, ?rr⟩) (by kernel_rfl) rfl (gtL (by decide)) (by decide)
        case oo =>
          refine (okc ?_ (okc gg0 (okc gg1 (okc gg2 okn))))
          all_goals first | exact hP | rfl | omega | (simp only [SS]; first | done | omega) | (simp_all; done) | (simp_all; omega)
        case rr =>
          try simp (disch := omega) only [SS]
          repeat' apply And.intro
          all_goals first | exact True.intro | with_reducible rfl | omega | (intros; first | exact True.intro | with_reducible rfl | omega | (simp_all; done)) | (simp_all; done) | rfl
    · refine runs_last baseEL (Sx.Ends.of (el0_p2 t0 t1 t2 P k n l m B F k' n' l' m' B' F') ⟨?oo, ?rr⟩) (by kernel_rfl) rfl (gtL (by decide)) (by decide)
      case oo =>
        refine (okc ?_ (okc gg0 (okc gg1 okn)))
        all_goals first | exact hP | rfl | omega | (simp only [SS]; first | done | omega) | (simp_all; done) | (simp_all; omega)
      case rr =>
        try simp (disch := omega) only [SS]
        repeat' apply And.intro
        all_goals first | exact True.intro | with_reducible rfl | omega | (intros; first | exact True.intro | with_reducible rfl | omega | (simp_all; done)) | (simp_all; done) | rfl
  · refine runs_last baseEL (Sx.Ends.of (el0_p3 t0 t1 t2 P k n l m B F k' n' l' m' B' F') ⟨?oo, ?rr⟩) (by kernel_rfl) rfl (gtL (by decide)) (by decide)
    case oo =>
      refine (okc ?_ (okc gg0 okn))
      all_goals first | exact hP | rfl | omega | (simp only [SS]; first | done | omega) | (simp_all; done) | (simp_all; omega)
    case rr =>
      try simp (disch := omega) only [SS]
      repeat' apply And.intro
      all_goals first | exact True.intro | with_reducible rfl | omega | (intros; first | exact True.intro | with_reducible rfl | omega | (simp_all; done)) | (simp_all; done) | rfl

theorem el_bad_bad_p0 (t0 t1 t2 : List UInt8) (P : Ix → Int) (k n : Int) (l m : Nat) (B F : Ix → Int) (k' n' : Int) (l' m' : Nat) (B' F' : Ix → Int) :
    isEnd (evTill Tryd.prog sumsEL 800 (99) 900 7 [.code (bodyOf Tryd.f7)] (envOf [.agg (.tc (.vi .i64 fun _ => k) (.tc (.vi .i64 fun _ => n) (.tc (.vl 100 (fun _ => 0) 1 [] (fun _ => l)) (.tc (.vl 101 (fun _ => 0) 1 [] (fun _ => m)) .t0)))), .agg (.tc (.vi .i64 fun _ => k') (.tc (.vi .i64 fun _ => n') (.tc (.vl 102 (fun _ => 0) 1 [] (fun _ => l')) (.tc (.vl 103 (fun _ => 0) 1 [] (fun _ => m')) .t0))))] Tryd.f7.ntmps) ((rbS t0 t1 t2 ++ (pwF P ++ (([⟨100, false, none, 1, .ta l (.vi .u8 B)⟩] ++ [⟨101, false, none, 1, .ta m (.vi .i64 F)⟩]) ++ ([⟨102, false, none, 1, .ta l' (.vi .u8 B')⟩] ++ [⟨103, false, none, 1, .ta m' (.vi .i64 F')⟩])))) ++ ([])) ⟨[.s true, .f, .s false, .s false, .s false, .s false, .s true, .s true, .s true, .t, .t, .t, .s true, .s false, .t, .t, .t, .s true, .s false, .f, .s false, .t, .t, .t, .s true, .s true, .t, .t, .t, .s true, .s true, .f, .s true, .s true, .s true, .s true, .s true, .s true, .s true], 110⟩) (endP ([]) (YES) ([]) 6000) =
    (OkL [(pwOK P, true), (decide ((↑l : Int) > (1100 : Int)), false), (decide ((↑m : Int) > (200 : Int)), false), (decide ((↑l' : Int) > (1100 : Int)), false), (decide ((↑m' : Int) > (200 : Int)), false), (((0 : Nat) + l).ble l, true), (((0 : Nat) + l').ble l', true), (decide (m ≤ m) && (decide (m ≤ (100000 : Nat)) && decide ((bytesOf B [] (0 : Nat) l).length ≤ (100000 : Nat))), true), (decide (m ≤ m) && (decide (m ≤ (100000 : Nat)) && decide ((bytesOf B [] (0 : Nat) l).length ≤ (100000 : Nat))), true), (rightV k n (bytesOf B [] (0 : Nat) l).length m F, false), (decide (m' ≤ m') && (decide (m' ≤ (100000 : Nat)) && decide ((bytesOf B' [] (0 : Nat) l').length ≤ (100000 : Nat))), true), (rightV k' n' (bytesOf B' [] (0 : Nat) l').length m' F', false), (rightV k n (bytesOf B [] (0 : Nat) l).length m F, false), (decide (m ≤ m) && (decide (l ≤ (100000 : Nat)) && decide (m ≤ (100000 : Nat))), true), (!rightV k n l m F, true), (decide (m' ≤ m') && (decide (l' ≤ (100000 : Nat)) && decide (m' ≤ (100000 : Nat))), true), (!rightV k' n' l' m' F', true), (decide (m ≤ m) && (decide (l ≤ (100000 : Nat)) && decide (m ≤ (100000 : Nat))), true), (rightV k n l m F == rightV k n (bytesOf B [] (0 : Nat) l).length m F, true), (decide (m ≤ m) && (decide (l ≤ l) && (decide (l ≤ (100000 : Nat)) && (decide (m ≤ (1000 : Nat)) && (bndB B l && (rangeI F m && (pwOK P && inN n)))))), true), (lineV k n l m B F == [], true), (decide (l ≤ l) && (decide (m ≤ m) && (decide (l' ≤ l') && (decide (m' ≤ m') && decide (m ≤ (100000 : Nat))))), true), (decide (m ≤ m) && (decide (m' ≤ m') && decide (m ≤ (100000 : Nat))), true), (sameV k n k' n' l m l' m' B B' F F' == sameT k n k' n' (bytesOf B [] (0 : Nat) l) (bytesOf B' [] (0 : Nat) l') m m' F F', true)] ∧ true = true ∧ True) := by kernel_rfl

set_option maxHeartbeats 4000000 in
theorem el_bad_bad (t0 t1 t2 : List UInt8) (P : Ix → Int) (k n : Int) (l m : Nat) (B F : Ix → Int) (k' n' : Int) (l' m' : Nat) (B' F' : Ix → Int) (hP : pwOK P = true) (hB : bndB B l = true) (hF : rangeI F m = true) (hn : inN n = true) (hB' : bndB B' l' = true) (hF' : rangeI F' m' = true) (hn' : inN n' = true) (h1 : l ≤ 1100) (h2 : m ≤ 200) (h3 : l' ≤ 1100) (h4 : m' ≤ 200) (hr : rightV k n l m F = false) (hr' : rightV k' n' l' m' F' = false)  :
    RunsTo Tryd.prog 7 [.code (bodyOf Tryd.f7)] (envOf [.agg (.tc (.vi .i64 fun _ => k) (.tc (.vi .i64 fun _ => n) (.tc (.vl 100 (fun _ => 0) 1 [] (fun _ => l)) (.tc (.vl 101 (fun _ => 0) 1 [] (fun _ => m)) .t0)))), .agg (.tc (.vi .i64 fun _ => k') (.tc (.vi .i64 fun _ => n') (.tc (.vl 102 (fun _ => 0) 1 [] (fun _ => l')) (.tc (.vl 103 (fun _ => 0) 1 [] (fun _ => m')) .t0))))] Tryd.f7.ntmps) (Sx.look ((rbS t0 t1 t2 ++ (pwF P ++ (([⟨100, false, none, 1, .ta l (.vi .u8 B)⟩] ++ [⟨101, false, none, 1, .ta m (.vi .i64 F)⟩]) ++ ([⟨102, false, none, 1, .ta l' (.vi .u8 B')⟩] ++ [⟨103, false, none, 1, .ta m' (.vi .i64 F')⟩])))) ++ ([]))) 110 (YES) (Sx.look ([])) 6000 := by
  have hl := lineV_N (B := B) hr
  refine runs_last baseEL (Sx.Ends.of (el_bad_bad_p0 t0 t1 t2 P k n l m B F k' n' l' m' B' F') ⟨?oo, ?rr⟩) (by kernel_rfl) rfl (gtL (by decide)) (by decide)
  case oo =>
    refine (okc ?_ (okc ?_ (okc ?_ (okc ?_ (okc ?_ (okc ?_ (okc ?_ (okc ?_ (okc ?_ (okc ?_ (okc ?_ (okc ?_ (okc ?_ (okc ?_ (okc ?_ (okc ?_ (okc ?_ (okc ?_ (okc ?_ (okc ?_ (okc ?_ (okc ?_ (okc ?_ (okc ?_ okn))))))))))))))))))))))))
    all_goals ((try simp only [by_len, rightV_B, Go.Sx.sum, hr, hr', hl, sameV_T]); first | done | rfl | omega | assumption | exact hP | exact ⟨Nat.le_refl _, by omega, by omega⟩ | exact ⟨Nat.le_refl _, Nat.le_refl _, by omega, by omega, hB, hF, hP, hn⟩ | exact ⟨Nat.le_refl _, Nat.le_refl _, Nat.le_refl _, Nat.le_refl _, by omega⟩ | exact ⟨Nat.le_refl _, Nat.le_refl _, by omega⟩ | (simp (disch := omega) only [SS, by_len, rightV_B, Go.Sx.sum, hr, hr', hl, sameV_T]; first | done | omega | assumption | exact hP | exact ⟨Nat.le_refl _, by omega, by omega⟩ | exact ⟨Nat.le_refl _, Nat.le_refl _, by omega, by omega, hB, hF, hP, hn⟩ | exact ⟨Nat.le_refl _, Nat.le_refl _, Nat.le_refl _, Nat.le_refl _, by omega⟩ | exact ⟨Nat.le_refl _, Nat.le_refl _, by omega⟩) | (simp_all; done) | (simp_all; omega))
  case rr =>
    refine ⟨?_, trivial⟩
    (try simp only [by_len, rightV_B, Go.Sx.sum, hr, hr', hl, sameV_T])
    first | done | rfl | (simp [allEq, List.range, List.range.loop, upd]; done) | simp_all [allEq, List.range, List.range.loop, upd]

theorem el_bad_2_p0 (t0 t1 t2 : List UInt8) (P : Ix → Int) (k n : Int) (l m : Nat) (B F : Ix → Int) (n' : Int) (l' m' : Nat) (B' F' : Ix → Int) :
    isEnd (evTill Tryd.prog sumsEL 800 (99) 900 7 [.code (bodyOf Tryd.f7)] (envOf [.agg (.tc (.vi .i64 fun _ => k) (.tc (.vi .i64 fun _ => n) (.tc (.vl 100 (fun _ => 0) 1 [] (fun _ => l)) (.tc (.vl 101 (fun _ => 0) 1 [] (fun _ => m)) .t0)))), .agg (.tc (.vi .i64 fun _ => 2) (.tc (.vi .i64 fun _ => n') (.tc (.vl 102 (fun _ => 0) 1 [] (fun _ => l')) (.tc (.vl 103 (fun _ => 0) 1 [] (fun _ => m')) .t0))))] Tryd.f7.ntmps) ((rbS t0 t1 t2 ++ (pwF P ++ (([⟨100, false, none, 1, .ta l (.vi .u8 B)⟩] ++ [⟨101, false, none, 1, .ta m (.vi .i64 F)⟩]) ++ ([⟨102, false, none, 1, .ta l' (.vi .u8 B')⟩] ++ [⟨103, false, none, 1, .ta m' (.vi .i64 F')⟩])))) ++ ([])) ⟨[.s true, .f, .s false, .s false, .s false, .s false, .s true, .s true, .s true, .t, .t, .t, .s true, .s false, .t, .t, .t, .s true, .s true, .t, .t, .t, .t, .t, .t, .t, .t, .t, .f, .s false, .t, .t, .t, .s true, .s true, .t, .t, .t, .s true, .s false, .t, .f, .s true, .s true, .s true, .s true, .s true, .s true, .s true], 110⟩) (endP ([]) (YES) ([]) 6000) =
    (OkL [(pwOK P, true), (decide ((↑l : Int) > (1100 : Int)), false), (decide ((↑m : Int) > (200 : Int)), false), (decide ((↑l' : Int) > (1100 : Int)), false), (decide ((↑m' : Int) > (200 : Int)), false), (((0 : Nat) + l).ble l, true), (((0 : Nat) + l').ble l', true), (decide (m ≤ m) && (decide (m ≤ (100000 : Nat)) && decide ((bytesOf B [] (0 : Nat) l).length ≤ (100000 : Nat))), true), (decide (m ≤ m) && (decide (m ≤ (100000 : Nat)) && decide ((bytesOf B [] (0 : Nat) l).length ≤ (100000 : Nat))), true), (rightV k n (bytesOf B [] (0 : Nat) l).length m F, false), (decide (m' ≤ m') && (decide (m' ≤ (100000 : Nat)) && decide ((bytesOf B' [] (0 : Nat) l').length ≤ (100000 : Nat))), true), (rightV (2 : Int) n' (bytesOf B' [] (0 : Nat) l').length m' F', true), (rightV k n (bytesOf B [] (0 : Nat) l).length m F, false), (decide (m ≤ m) && (decide (l ≤ (100000 : Nat)) && decide (m ≤ (100000 : Nat))), true), (!rightV k n l m F, true), (decide (m' ≤ m') && (decide (l' ≤ (100000 : Nat)) && decide (m' ≤ (100000 : Nat))), true), (!rightV (2 : Int) n' l' m' F', false), (decide (m ≤ m) && (decide (l ≤ (100000 : Nat)) && decide (m ≤ (100000 : Nat))), true), (rightV k n l m F == rightV k n (bytesOf B [] (0 : Nat) l).length m F, true), (decide (m ≤ m) && (decide (l ≤ l) && (decide (l ≤ (100000 : Nat)) && (decide (m ≤ (1000 : Nat)) && (bndB B l && (rangeI F m && (pwOK P && inN n)))))), true), (lineV k n l m B F == [], true), (decide (l ≤ l) && (decide (m ≤ m) && (decide (l' ≤ l') && (decide (m' ≤ m') && decide (m ≤ (100000 : Nat))))), true), (decide (m ≤ m) && (decide (m' ≤ m') && decide (m ≤ (100000 : Nat))), true), (sameV k n (2 : Int) n' l m l' m' B B' F F' == sameT k n (2 : Int) n' (bytesOf B [] (0 : Nat) l) (bytesOf B' [] (0 : Nat) l') m m' F F', true)] ∧ true = allEq (upd (upd (upd (fun x => (0 : Int)) [(0 : Nat)] (IntKind.i64.wrap ((0 : Int) + (↑l' : Int)))) [(1 : Nat)] (IntKind.i64.wrap ((0 : Int) + n'))) [(2 : Nat)] (0 : Int)) (fun js => upd (upd (fun x => (0 : Int)) [(0 : Nat)] (IntKind.i64.wrap ((0 : Int) + (↑(bytesOf B' [] (0 : Nat) l').length : Int)))) [(1 : Nat)] (IntKind.i64.wrap (upd (fun x => (0 : Int)) [(0 : Nat)] (IntKind.i64.wrap ((0 : Int) + (↑(bytesOf B' [] (0 : Nat) l').length : Int))) [(1 : Nat)] + n')) js) (3 : Nat) ∧ True) := by kernel_rfl

set_option maxHeartbeats 4000000 in
theorem el_bad_2 (t0 t1 t2 : List UInt8) (P : Ix → Int) (k n : Int) (l m : Nat) (B F : Ix → Int) (n' : Int) (l' m' : Nat) (B' F' : Ix → Int) (hP : pwOK P = true) (hB : bndB B l = true) (hF : rangeI F m = true) (hn : inN n = true) (hB' : bndB B' l' = true) (hF' : rangeI F' m' = true) (hn' : inN n' = true) (h1 : l ≤ 1100) (h2 : m ≤ 200) (h3 : l' ≤ 1100) (h4 : m' ≤ 200) (hr : rightV k n l m F = false) (hr' : rightV 2 n' l' m' F' = true)  :
    RunsTo Tryd.prog 7 [.code (bodyOf Tryd.f7)] (envOf [.agg (.tc (.vi .i64 fun _ => k) (.tc (.vi .i64 fun _ => n) (.tc (.vl 100 (fun _ => 0) 1 [] (fun _ => l)) (.tc (.vl 101 (fun _ => 0) 1 [] (fun _ => m)) .t0)))), .agg (.tc (.vi .i64 fun _ => 2) (.tc (.vi .i64 fun _ => n') (.tc (.vl 102 (fun _ => 0) 1 [] (fun _ => l')) (.tc (.vl 103 (fun _ => 0) 1 [] (fun _ => m')) .t0))))] Tryd.f7.ntmps) (Sx.look ((rbS t0 t1 t2 ++ (pwF P ++ (([⟨100, false, none, 1, .ta l (.vi .u8 B)⟩] ++ [⟨101, false, none, 1, .ta m (.vi .i64 F)⟩]) ++ ([⟨102, false, none, 1, .ta l' (.vi .u8 B')⟩] ++ [⟨103, false, none, 1, .ta m' (.vi .i64 F')⟩])))) ++ ([]))) 110 (YES) (Sx.look ([])) 6000 := by
  have hl := lineV_N (B := B) hr
  refine runs_last baseEL (Sx.Ends.of (el_bad_2_p0 t0 t1 t2 P k n l m B F n' l' m' B' F') ⟨?oo, ?rr⟩) (by kernel_rfl) rfl (gtL (by decide)) (by decide)
  case oo =>
    refine (okc ?_ (okc ?_ (okc ?_ (okc ?_ (okc ?_ (okc ?_ (okc ?_ (okc ?_ (okc ?_ (okc ?_ (okc ?_ (okc ?_ (okc ?_ (okc ?_ (okc ?_ (okc ?_ (okc ?_ (okc ?_ (okc ?_ (okc ?_ (okc ?_ (okc ?_ (okc ?_ (okc ?_ okn))))))))))))))))))))))))
    all_goals ((try simp only [by_len, rightV_B, Go.Sx.sum, hr, hr', hl, sameV_T]); first | done | rfl | omega | assumption | exact hP | exact ⟨Nat.le_refl _, by omega, by omega⟩ | exact ⟨Nat.le_refl _, Nat.le_refl _, by omega, by omega, hB, hF, hP, hn⟩ | exact ⟨Nat.le_refl _, Nat.le_refl _, Nat.le_refl _, Nat.le_refl _, by omega⟩ | exact ⟨Nat.le_refl _, Nat.le_refl _, by omega⟩ | (simp (disch := omega) only [SS, by_len, rightV_B, Go.Sx.sum, hr, hr', hl, sameV_T]; first | done | omega | assumption | exact hP | exact ⟨Nat.le_refl _, by omega, by omega⟩ | exact ⟨Nat.le_refl _, Nat.le_refl _, by omega, by omega, hB, hF, hP, hn⟩ | exact ⟨Nat.le_refl _, Nat.le_refl _, Nat.le_refl _, Nat.le_refl _, by omega⟩ | exact ⟨Nat.le_refl _, Nat.le_refl _, by omega⟩) | (simp_all; done) | (simp_all; omega))
  case rr =>
    refine ⟨?_, trivial⟩
    (try simp only [by_len, rightV_B, Go.Sx.sum, hr, hr', hl, sameV_T])
    first | done | rfl | (simp [allEq, List.range, List.range.loop, upd]; done) | simp_all [allEq, List.range, List.range.loop, upd]

theorem el_bad_3_p0 (t0 t1 t2 : List UInt8) (P : Ix → Int) (k n : Int) (l m : Nat) (B F : Ix → Int) (n' : Int) (l' m' : Nat) (B' F' : Ix → Int) :
    isEnd (evTill Tryd.prog sumsEL 800 (99) 900 7 [.code (bodyOf Tryd.f7)] (envOf [.agg (.tc (.vi .i64 fun _ => k) (.tc (.vi .i64 fun _ => n) (.tc (.vl 100 (fun _ => 0) 1 [] (fun _ => l)) (.tc (.vl 101 (fun _ => 0) 1 [] (fun _ => m)) .t0)))), .agg (.tc (.vi .i64 fun _ => 3) (.tc (.vi .i64 fun _ => n') (.tc (.vl 102 (fun _ => 0) 1 [] (fun _ => l')) (.tc (.vl 103 (fun _ => 0) 1 [] (fun _ => m')) .t0))))] Tryd.f7.ntmps) ((rbS t0 t1 t2 ++ (pwF P ++ (([⟨100, false, none, 1, .ta l (.vi .u8 B)⟩] ++ [⟨101, false, none, 1, .ta m (.vi .i64 F)⟩]) ++ ([⟨102, false, none, 1, .ta l' (.vi .u8 B')⟩] ++ [⟨103, false, none, 1, .ta m' (.vi .i64 F')⟩])))) ++ ([])) ⟨[.s true, .f, .s false, .s false, .s false, .s false, .s true, .s true, .s true, .t, .t, .t, .s true, .s false, .t, .t, .t, .s true, .s true, .t, .t, .t, .t, .f, .t, .t, .t, .t, .t, .f, .s false, .t, .t, .t, .s true, .s true, .t, .t, .t, .s true, .s false, .f, .t, .f, .s true, .s true, .s true, .s true, .s true, .s true, .s true], 110⟩) (endP ([]) (YES) ([]) 6000) =
    (OkL [(pwOK P, true), (decide ((↑l : Int) > (1100 : Int)), false), (decide ((↑m : Int) > (200 : Int)), false), (decide ((↑l' : Int) > (1100 : Int)), false), (decide ((↑m' : Int) > (200 : Int)), false), (((0 : Nat) + l).ble l, true), (((0 : Nat) + l').ble l', true), (decide (m ≤ m) && (decide (m ≤ (100000 : Nat)) && decide ((bytesOf B [] (0 : Nat) l).length ≤ (100000 : Nat))), true), (decide (m ≤ m) && (decide (m ≤ (100000 : Nat)) && decide ((bytesOf B [] (0 : Nat) l).length ≤ (100000 : Nat))), true), (rightV k n (bytesOf B [] (0 : Nat) l).length m F, false), (decide (m' ≤ m') && (decide (m' ≤ (100000 : Nat)) && decide ((bytesOf B' [] (0 : Nat) l').length ≤ (100000 : Nat))), true), (rightV (3 : Int) n' (bytesOf B' [] (0 : Nat) l').length m' F', true), (rightV k n (bytesOf B [] (0 : Nat) l).length m F, false), (decide (m ≤ m) && (decide (l ≤ (100000 : Nat)) && decide (m ≤ (100000 : Nat))), true), (!rightV k n l m F, true), (decide (m' ≤ m') && (decide (l' ≤ (100000 : Nat)) && decide (m' ≤ (100000 : Nat))), true), (!rightV (3 : Int) n' l' m' F', false), (decide (m ≤ m) && (decide (l ≤ (100000 : Nat)) && decide (m ≤ (100000 : Nat))), true), (rightV k n l m F == rightV k n (bytesOf B [] (0 : Nat) l).length m F, true), (decide (m ≤ m) && (decide (l ≤ l) && (decide (l ≤ (100000 : Nat)) && (decide (m ≤ (1000 : Nat)) && (bndB B l && (rangeI F m && (pwOK P && inN n)))))), true), (lineV k n l m B F == [], true), (decide (l ≤ l) && (decide (m ≤ m) && (decide (l' ≤ l') && (decide (m' ≤ m') && decide (m ≤ (100000 : Nat))))), true), (decide (m ≤ m) && (decide (m' ≤ m') && decide (m ≤ (100000 : Nat))), true), (sameV k n (3 : Int) n' l m l' m' B B' F F' == sameT k n (3 : Int) n' (bytesOf B [] (0 : Nat) l) (bytesOf B' [] (0 : Nat) l') m m' F F', true)] ∧ true = allEq (upd (upd (upd (fun x => (0 : Int)) [(0 : Nat)] (IntKind.i64.wrap ((0 : Int) + (↑l' : Int)))) [(1 : Nat)] (0 : Int)) [(2 : Nat)] (IntKind.i64.wrap ((0 : Int) + n'))) (fun js => upd (upd (fun x => (0 : Int)) [(0 : Nat)] (IntKind.i64.wrap ((0 : Int) + (↑(bytesOf B' [] (0 : Nat) l').length : Int)))) [(2 : Nat)] (IntKind.i64.wrap (upd (fun x => (0 : Int)) [(0 : Nat)] (IntKind.i64.wrap ((0 : Int) + (↑(bytesOf B' [] (0 : Nat) l').length : Int))) [(2 : Nat)] + n')) js) (3 : Nat) ∧ True) := by kernel_rfl

set_option maxHeartbeats 4000000 in
theorem el_bad_3 (t0 t1 t2 : List UInt8) (P : Ix → Int) (k n : Int) (l m : Nat) (B F : Ix → Int) (n' : Int) (l' m' : Nat) (B' F' : Ix → Int) (hP : pwOK P = true) (hB : bndB B l = true) (hF : rangeI F m = true) (hn : inN n = true) (hB' : bndB B' l' = true) (hF' : rangeI F' m' = true) (hn' : inN n' = true) (h1 : l ≤ 1100) (h2 : m ≤ 200) (h3 : l' ≤ 1100) (h4 : m' ≤ 200) (hr : rightV k n l m F = false) (hr' : rightV 3 n' l' m' F' = true)  :
    RunsTo Tryd.prog 7 [.code (bodyOf Tryd.f7)] (envOf [.agg (.tc (.vi .i64 fun _ => k) (.tc (.vi .i64 fun _ => n) (.tc (.vl 100 (fun _ => 0) 1 [] (fun _ => l)) (.tc (.vl 101 (fun _ => 0) 1 [] (fun _ => m)) .t0)))), .agg (.tc (.vi .i64 fun _ => 3) (.tc (.vi .i64 fun _ => n') (.tc (.vl 102 (fun _ => 0) 1 [] (fun _ => l')) (.tc (.vl 103 (fun _ => 0) 1 [] (fun _ => m')) .t0))))] Tryd.f7.ntmps) (Sx.look ((rbS t0 t1 t2 ++ (pwF P ++ (([⟨100, false, none, 1, .ta l (.vi .u8 B)⟩] ++ [⟨101, false, none, 1, .ta m (.vi .i64 F)⟩]) ++ ([⟨102, false, none, 1, .ta l' (.vi .u8 B')⟩] ++ [⟨103, false, none, 1, .ta m' (.vi .i64 F')⟩])))) ++ ([]))) 110 (YES) (Sx.look ([])) 6000 := by
  have hl := lineV_N (B := B) hr
  refine runs_last baseEL (Sx.Ends.of (el_bad_3_p0 t0 t1 t2 P k n l m B F n' l' m' B' F') ⟨?oo, ?rr⟩) (by kernel_rfl) rfl (gtL (by decide)) (by decide)
  case oo =>
    refine (okc ?_ (okc ?_ (okc ?_ (okc ?_ (okc ?_ (okc ?_ (okc ?_ (okc ?_ (okc ?_ (okc ?_ (okc ?_ (okc ?_ (okc ?_ (okc ?_ (okc ?_ (okc ?_ (okc ?_ (okc ?_ (okc ?_ (okc ?_ (okc ?_ (okc ?_ (okc ?_ (okc ?_ okn))))))))))))))))))))))))
    all_goals ((try simp only [by_len, rightV_B, Go.Sx.sum, hr, hr', hl, sameV_T]); first | done | rfl | omega | assumption | exact hP | exact ⟨Nat.le_refl _, by omega, by omega⟩ | exact ⟨Nat.le_refl _, Nat.le_refl _, by omega, by omega, hB, hF, hP, hn⟩ | exact ⟨Nat.le_refl _, Nat.le_refl _, Nat.le_refl _, Nat.le_refl _, by omega⟩ | exact ⟨Nat.le_refl _, Nat.le_refl _, by omega⟩ | (simp (disch := omega) only [SS, by_len, rightV_B, Go.Sx.sum, hr, hr', hl, sameV_T]; first | done | omega | assumption | exact hP | exact ⟨Nat.le_refl _, by omega, by omega⟩ | exact ⟨Nat.le_refl _, Nat.le_refl _, by omega, by omega, hB, hF, hP, hn⟩ | exact ⟨Nat.le_refl _, Nat.le_refl _, Nat.le_refl _, Nat.le_refl _, by omega⟩ | exact ⟨Nat.le_refl _, Nat.le_refl _, by omega⟩) | (simp_all; done) | (simp_all; omega))
  case rr =>
    refine ⟨?_, trivial⟩
    (try simp only [by_len, rightV_B, Go.Sx.sum, hr, hr', hl, sameV_T])
    first | done | rfl | (simp [allEq, List.range, List.range.loop, upd]; done) | simp_all [allEq, List.range, List.range.loop, upd]

theorem el_bad_o_p0 (t0 t1 t2 : List UInt8) (P : Ix → Int) (k n : Int) (l m : Nat) (B F : Ix → Int) (k' n' : Int) (l' m' : Nat) (B' F' : Ix → Int) :
    isEnd (evTill Tryd.prog sumsEL 800 (99) 900 7 [.code (bodyOf Tryd.f7)] (envOf [.agg (.tc (.vi .i64 fun _ => k) (.tc (.vi .i64 fun _ => n) (.tc (.vl 100 (fun _ => 0) 1 [] (fun _ => l)) (.tc (.vl 101 (fun _ => 0) 1 [] (fun _ => m)) .t0)))), .agg (.tc (.vi .i64 fun _ => k') (.tc (.vi .i64 fun _ => n') (.tc (.vl 102 (fun _ => 0) 1 [] (fun _ => l')) (.tc (.vl 103 (fun _ => 0) 1 [] (fun _ => m')) .t0))))] Tryd.f7.ntmps) ((rbS t0 t1 t2 ++ (pwF P ++ (([⟨100, false, none, 1, .ta l (.vi .u8 B)⟩] ++ [⟨101, false, none, 1, .ta m (.vi .i64 F)⟩]) ++ ([⟨102, false, none, 1, .ta l' (.vi .u8 B')⟩] ++ [⟨103, false, none, 1, .ta m' (.vi .i64 F')⟩])))) ++ ([])) ⟨[.s true, .f, .s false, .s false, .s false, .s false, .s true, .s true, .s true, .t, .t, .t, .s true, .s false, .t, .t, .t, .s true, .s true, .t, .t, .t, .t, .s false, .s false, .f, .s false, .t, .t, .t, .s true, .s true, .t, .t, .t, .s true, .s false, .s false, .s false, .f, .s true, .s true, .s true, .s true, .s true, .s true, .s true], 110⟩) (endP ([]) (YES) ([]) 6000) =
    (OkL [(pwOK P, true), (decide ((↑l : Int) > (1100 : Int)), false), (decide ((↑m : Int) > (200 : Int)), false), (decide ((↑l' : Int) > (1100 : Int)), false), (decide ((↑m' : Int) > (200 : Int)), false), (((0 : Nat) + l).ble l, true), (((0 : Nat) + l').ble l', true), (decide (m ≤ m) && (decide (m ≤ (100000 : Nat)) && decide ((bytesOf B [] (0 : Nat) l).length ≤ (100000 : Nat))), true), (decide (m ≤ m) && (decide (m ≤ (100000 : Nat)) && decide ((bytesOf B [] (0 : Nat) l).length ≤ (100000 : Nat))), true), (rightV k n (bytesOf B [] (0 : Nat) l).length m F, false), (decide (m' ≤ m') && (decide (m' ≤ (100000 : Nat)) && decide ((bytesOf B' [] (0 : Nat) l').length ≤ (100000 : Nat))), true), (rightV k' n' (bytesOf B' [] (0 : Nat) l').length m' F', true), (k' == (2 : Int), false), (k' == (3 : Int), false), (rightV k n (bytesOf B [] (0 : Nat) l).length m F, false), (decide (m ≤ m) && (decide (l ≤ (100000 : Nat)) && decide (m ≤ (100000 : Nat))), true), (!rightV k n l m F, true), (decide (m' ≤ m') && (decide (l' ≤ (100000 : Nat)) && decide (m' ≤ (100000 : Nat))), true), (!rightV k' n' l' m' F', false), (k' == (2 : Int), false), (k' == (3 : Int), false), (decide (m ≤ m) && (decide (l ≤ (100000 : Nat)) && decide (m ≤ (100000 : Nat))), true), (rightV k n l m F == rightV k n (bytesOf B [] (0 : Nat) l).length m F, true), (decide (m ≤ m) && (decide (l ≤ l) && (decide (l ≤ (100000 : Nat)) && (decide (m ≤ (1000 : Nat)) && (bndB B l && (rangeI F m && (pwOK P && inN n)))))), true), (lineV k n l m B F == [], true), (decide (l ≤ l) && (decide (m ≤ m) && (decide (l' ≤ l') && (decide (m' ≤ m') && decide (m ≤ (100000 : Nat))))), true), (decide (m ≤ m) && (decide (m' ≤ m') && decide (m ≤ (100000 : Nat))), true), (sameV k n k' n' l m l' m' B B' F F' == sameT k n k' n' (bytesOf B [] (0 : Nat) l) (bytesOf B' [] (0 : Nat) l') m m' F F', true)] ∧ true = allEq (upd (upd (upd (fun x => (0 : Int)) [(0 : Nat)] (IntKind.i64.wrap ((0 : Int) + (↑l' : Int)))) [(1 : Nat)] (0 : Int)) [(2 : Nat)] (0 : Int)) (fun js => upd (fun x => (0 : Int)) [(0 : Nat)] (IntKind.i64.wrap ((0 : Int) + (↑(bytesOf B' [] (0 : Nat) l').length : Int))) js) (3 : Nat) ∧ True) := by kernel_rfl

set_option maxHeartbeats 4000000 in
theorem el_bad_o (t0 t1 t2 : List UInt8) (P : Ix → Int) (k n : Int) (l m : Nat) (B F : Ix → Int) (k' n' : Int) (l' m' : Nat) (B' F' : Ix → Int) (hP : pwOK P = true) (hB : bndB B l = true) (hF : rangeI F m = true) (hn : inN n = true) (hB' : bndB B' l' = true) (hF' : rangeI F' m' = true) (hn' : inN n' = true) (h1 : l ≤ 1100) (h2 : m ≤ 200) (h3 : l' ≤ 1100) (h4 : m' ≤ 200) (hr : rightV k n l m F = false) (hr' : rightV k' n' l' m' F' = true) (hx' : k' ≠ 2) (hy' : k' ≠ 3)  :
    RunsTo Tryd.prog 7 [.code (bodyOf Tryd.f7)] (envOf [.agg (.tc (.vi .i64 fun _ => k) (.tc (.vi .i64 fun _ => n) (.tc (.vl 100 (fun _ => 0) 1 [] (fun _ => l)) (.tc (.vl 101 (fun _ => 0) 1 [] (fun _ => m)) .t0)))), .agg (.tc (.vi .i64 fun _ => k') (.tc (.vi .i64 fun _ => n') (.tc (.vl 102 (fun _ => 0) 1 [] (fun _ => l')) (.tc (.vl 103 (fun _ => 0) 1 [] (fun _ => m')) .t0))))] Tryd.f7.ntmps) (Sx.look ((rbS t0 t1 t2 ++ (pwF P ++ (([⟨100, false, none, 1, .ta l (.vi .u8 B)⟩] ++ [⟨101, false, none, 1, .ta m (.vi .i64 F)⟩]) ++ ([⟨102, false, none, 1, .ta l' (.vi .u8 B')⟩] ++ [⟨103, false, none, 1, .ta m' (.vi .i64 F')⟩])))) ++ ([]))) 110 (YES) (Sx.look ([])) 6000 := by
  have hl := lineV_N (B := B) hr
  refine runs_last baseEL (Sx.Ends.of (el_bad_o_p0 t0 t1 t2 P k n l m B F k' n' l' m' B' F') ⟨?oo, ?rr⟩) (by kernel_rfl) rfl (gtL (by decide)) (by decide)
  case oo =>
    refine (okc ?_ (okc ?_ (okc ?_ (okc ?_ (okc ?_ (okc ?_ (okc ?_ (okc ?_ (okc ?_ (okc ?_ (okc ?_ (okc ?_ (okc ?_ (okc ?_ (okc ?_ (okc ?_ (okc ?_ (okc ?_ (okc ?_ (okc ?_ (okc ?_ (okc ?_ (okc ?_ (okc ?_ (okc ?_ (okc ?_ (okc ?_ (okc ?_ okn))))))))))))))))))))))))))))
    all_goals ((try simp only [by_len, rightV_B, Go.Sx.sum, hr, hr', hl, sameV_T]); first | done | rfl | omega | assumption | exact hP | exact ⟨Nat.le_refl _, by omega, by omega⟩ | exact ⟨Nat.le_refl _, Nat.le_refl _, by omega, by omega, hB, hF, hP, hn⟩ | exact ⟨Nat.le_refl _, Nat.le_refl _, Nat.le_refl _, Nat.le_refl _, by omega⟩ | exact ⟨Nat.le_refl _, Nat.le_refl _, by omega⟩ | (simp (disch := omega) only [SS, by_len, rightV_B, Go.Sx.sum, hr, hr', hl, sameV_T]; first | done | omega | assumption | exact hP | exact ⟨Nat.le_refl _, by omega, by omega⟩ | exact ⟨Nat.le_refl _, Nat.le_refl _, by omega, by omega, hB, hF, hP, hn⟩ | exact ⟨Nat.le_refl _, Nat.le_refl _, Nat.le_refl _, Nat.le_refl _, by omega⟩ | exact ⟨Nat.le_refl _, Nat.le_refl _, by omega⟩) | (simp_all; done) | (simp_all; omega))
  case rr =>
    refine ⟨?_, trivial⟩
    (try simp only [by_len, rightV_B, Go.Sx.sum, hr, hr', hl, sameV_T])
    first | done | rfl | (simp [allEq, List.range, List.range.loop, upd]; done) | simp_all [allEq, List.range, List.range.loop, upd]

theorem el_2_bad_p0 (t0 t1 t2 : List UInt8) (P : Ix → Int) (n : Int) (l m : Nat) (B F : Ix → Int) (k' n' : Int) (l' m' : Nat) (B' F' : Ix → Int) :
    isEnd (evTill Tryd.prog sumsEL 800 (99) 900 7 [.code (bodyOf Tryd.f7)] (envOf [.agg (.tc (.vi .i64 fun _ => 2) (.tc (.vi .i64 fun _ => n) (.tc (.vl 100 (fun _ => 0) 1 [] (fun _ => l)) (.tc (.vl 101 (fun _ => 0) 1 [] (fun _ => m)) .t0)))), .agg (.tc (.vi .i64 fun _ => k') (.tc (.vi .i64 fun _ => n') (.tc (.vl 102 (fun _ => 0) 1 [] (fun _ => l')) (.tc (.vl 103 (fun _ => 0) 1 [] (fun _ => m')) .t0))))] Tryd.f7.ntmps) ((rbS t0 t1 t2 ++ (pwF P ++ (([⟨100, false, none, 1, .ta l (.vi .u8 B)⟩] ++ [⟨101, false, none, 1, .ta m (.vi .i64 F)⟩]) ++ ([⟨102, false, none, 1, .ta l' (.vi .u8 B')⟩] ++ [⟨103, false, none, 1, .ta m' (.vi .i64 F')⟩])))) ++ ([])) ⟨[.s true, .f, .s false, .s false, .s false, .s false, .s true, .s true, .s true, .t, .t, .t, .s true, .s true, .t, .t, .t, .t, .t, .t, .t, .t, .t, .t, .t, .t, .s true, .s false, .f, .s true, .s true, .t, .t, .t, .s true, .s false, .t, .t, .t, .t, .s true, .s true, .f, .s true, .s true, .s true, .s true, .s true, .s true, .s true], 110⟩) (endP ([]) (YES) ([]) 6000) =
    (OkL [(pwOK P, true), (decide ((↑l : Int) > (1100 : Int)), false), (decide ((↑m : Int) > (200 : Int)), false), (decide ((↑l' : Int) > (1100 : Int)), false), (decide ((↑m' : Int) > (200 : Int)), false), (((0 : Nat) + l).ble l, true), (((0 : Nat) + l').ble l', true), (decide (m ≤ m) && (decide (m ≤ (100000 : Nat)) && decide ((bytesOf B [] (0 : Nat) l).length ≤ (100000 : Nat))), true), (decide (m ≤ m) && (decide (m ≤ (100000 : Nat)) && decide ((bytesOf B [] (0 : Nat) l).length ≤ (100000 : Nat))), true), (rightV (2 : Int) n (bytesOf B [] (0 : Nat) l).length m F, true), (decide (m' ≤ m') && (decide (m' ≤ (100000 : Nat)) && decide ((bytesOf B' [] (0 : Nat) l').length ≤ (100000 : Nat))), true), (rightV k' n' (bytesOf B' [] (0 : Nat) l').length m' F', false), (rightV (2 : Int) n (bytesOf B [] (0 : Nat) l).length m F, true), (decide (m ≤ m) && (decide (m ≤ (1100 : Nat)) && rightR { K := (2 : Int), N := n, B := bytesOf B [] (0 : Nat) l, M := intsF F m }), true), (decide (m ≤ m) && (decide (l ≤ (100000 : Nat)) && decide (m ≤ (100000 : Nat))), true), (!rightV (2 : Int) n l m F, false), (decide (m' ≤ m') && (decide (l' ≤ (100000 : Nat)) && decide (m' ≤ (100000 : Nat))), true), (!rightV k' n' l' m' F', true), (decide (m ≤ m) && (decide (l ≤ (100000 : Nat)) && decide (m ≤ (100000 : Nat))), true), (rightV (2 : Int) n l m F == rightV (2 : Int) n (bytesOf B [] (0 : Nat) l).length m F, true), (decide (m ≤ m) && (decide (l ≤ l) && (decide (l ≤ (100000 : Nat)) && (decide (m ≤ (1000 : Nat)) && (bndB B l && (rangeI F m && (pwOK P && inN n)))))), true), (lineV (2 : Int) n l m B F == lineR { K := (2 : Int), N := n, B := bytesOf B [] (0 : Nat) l, M := intsF F m }, true), (decide (l ≤ l) && (decide (m ≤ m) && (decide (l' ≤ l') && (decide (m' ≤ m') && decide (m ≤ (100000 : Nat))))), true), (decide (m ≤ m) && (decide (m' ≤ m') && decide (m ≤ (100000 : Nat))), true), (sameV (2 : Int) n k' n' l m l' m' B B' F F' == sameT (2 : Int) n k' n' (bytesOf B [] (0 : Nat) l) (bytesOf B' [] (0 : Nat) l') m m' F F', true)] ∧ true = allEq (upd (upd (upd (fun x => (0 : Int)) [(0 : Nat)] (IntKind.i64.wrap ((0 : Int) + (↑l : Int)))) [(1 : Nat)] (IntKind.i64.wrap ((0 : Int) + n))) [(2 : Nat)] (0 : Int)) (fun js => upd (upd (fun x => (0 : Int)) [(0 : Nat)] (IntKind.i64.wrap ((0 : Int) + (↑(bytesOf B [] (0 : Nat) l).length : Int)))) [(1 : Nat)] (IntKind.i64.wrap (upd (fun x => (0 : Int)) [(0 : Nat)] (IntKind.i64.wrap ((0 : Int) + (↑(bytesOf B [] (0 : Nat) l).length : Int))) [(1 : Nat)] + n)) js) (3 : Nat) ∧ True) := by kernel_rfl

set_option maxHeartbeats 4000000 in
theorem el_2_bad (t0 t1 t2 : List UInt8) (P : Ix → Int) (n : Int) (l m : Nat) (B F : Ix → Int) (k' n' : Int) (l' m' : Nat) (B' F' : Ix → Int) (hP : pwOK P = true) (hB : bndB B l = true) (hF : rangeI F m = true) (hn : inN n = true) (hB' : bndB B' l' = true) (hF' : rangeI F' m' = true) (hn' : inN n' = true) (h1 : l ≤ 1100) (h2 : m ≤ 200) (h3 : l' ≤ 1100) (h4 : m' ≤ 200) (hr : rightV 2 n l m F = true) (hr' : rightV k' n' l' m' F' = false)  :
    RunsTo Tryd.prog 7 [.code (bodyOf Tryd.f7)] (envOf [.agg (.tc (.vi .i64 fun _ => 2) (.tc (.vi .i64 fun _ => n) (.tc (.vl 100 (fun _ => 0) 1 [] (fun _ => l)) (.tc (.vl 101 (fun _ => 0) 1 [] (fun _ => m)) .t0)))), .agg (.tc (.vi .i64 fun _ => k') (.tc (.vi .i64 fun _ => n') (.tc (.vl 102 (fun _ => 0) 1 [] (fun _ => l')) (.tc (.vl 103 (fun _ => 0) 1 [] (fun _ => m')) .t0))))] Tryd.f7.ntmps) (Sx.look ((rbS t0 t1 t2 ++ (pwF P ++ (([⟨100, false, none, 1, .ta l (.vi .u8 B)⟩] ++ [⟨101, false, none, 1, .ta m (.vi .i64 F)⟩]) ++ ([⟨102, false, none, 1, .ta l' (.vi .u8 B')⟩] ++ [⟨103, false, none, 1, .ta m' (.vi .i64 F')⟩])))) ++ ([]))) 110 (YES) (Sx.look ([])) 6000 := by
  have hl := lineV_T (B := B) hr
  have hR := rightR_T (B := B) hr
  refine runs_last baseEL (Sx.Ends.of (el_2_bad_p0 t0 t1 t2 P n l m B F k' n' l' m' B' F') ⟨?oo, ?rr⟩) (by kernel_rfl) rfl (gtL (by decide)) (by decide)
  case oo =>
    refine (okc ?_ (okc ?_ (okc ?_ (okc ?_ (okc ?_ (okc ?_ (okc ?_ (okc ?_ (okc ?_ (okc ?_ (okc ?_ (okc ?_ (okc ?_ (okc ?_ (okc ?_ (okc ?_ (okc ?_ (okc ?_ (okc ?_ (okc ?_ (okc ?_ (okc ?_ (okc ?_ (okc ?_ (okc ?_ okn)))))))))))))))))))))))))
    all_goals ((try simp only [by_len, rightV_B, Go.Sx.sum, hr, hr', hl, sameV_T]); first | done | rfl | omega | assumption | exact hP | exact ⟨Nat.le_refl _, by omega, by omega⟩ | exact ⟨Nat.le_refl _, Nat.le_refl _, by omega, by omega, hB, hF, hP, hn⟩ | exact ⟨Nat.le_refl _, Nat.le_refl _, Nat.le_refl _, Nat.le_refl _, by omega⟩ | exact ⟨Nat.le_refl _, Nat.le_refl _, by omega⟩ | exact ⟨Nat.le_refl _, by omega, hR⟩ | (simp (disch := omega) only [SS, by_len, rightV_B, Go.Sx.sum, hr, hr', hl, sameV_T]; first | done | omega | assumption | exact hP | exact ⟨Nat.le_refl _, by omega, by omega⟩ | exact ⟨Nat.le_refl _, Nat.le_refl _, by omega, by omega, hB, hF, hP, hn⟩ | exact ⟨Nat.le_refl _, Nat.le_refl _, Nat.le_refl _, Nat.le_refl _, by omega⟩ | exact ⟨Nat.le_refl _, Nat.le_refl _, by omega⟩ | exact ⟨Nat.le_refl _, by omega, hR⟩) | (simp_all; done) | (simp_all; omega))
  case rr =>
    refine ⟨?_, trivial⟩
    (try simp only [by_len, rightV_B, Go.Sx.sum, hr, hr', hl, sameV_T])
    first | done | rfl | (simp [allEq, List.range, List.range.loop, upd]; done) | simp_all [allEq, List.range, List.range.loop, upd]

theorem el_2_2_p0 (t0 t1 t2 : List UInt8) (P : Ix → Int) (n : Int) (l m : Nat) (B F : Ix → Int) (n' : Int) (l' m' : Nat) (B' F' : Ix → Int) :
    isEnd (evTill Tryd.prog sumsEL 800 (99) 900 7 [.code (bodyOf Tryd.f7)] (envOf [.agg (.tc (.vi .i64 fun _ => 2) (.tc (.vi .i64 fun _ => n) (.tc (.vl 100 (fun _ => 0) 1 [] (fun _ => l)) (.tc (.vl 101 (fun _ => 0) 1 [] (fun _ => m)) .t0)))), .agg (.tc (.vi .i64 fun _ => 2) (.tc (.vi .i64 fun _ => n') (.tc (.vl 102 (fun _ => 0) 1 [] (fun _ => l')) (.tc (.vl 103 (fun _ => 0) 1 [] (fun _ => m')) .t0))))] Tryd.f7.ntmps) ((rbS t0 t1 t2 ++ (pwF P ++ (([⟨100, false, none, 1, .ta l (.vi .u8 B)⟩] ++ [⟨101, false, none, 1, .ta m (.vi .i64 F)⟩]) ++ ([⟨102, false, none, 1, .ta l' (.vi .u8 B')⟩] ++ [⟨103, false, none, 1, .ta m' (.vi .i64 F')⟩])))) ++ ([])) ⟨[.s true, .f, .s false, .s false, .s false, .s false, .s true, .s true, .s true, .t, .t, .t, .s true, .s true, .t, .t, .t, .t, .t, .t, .t, .t, .t, .t, .t, .t, .s true, .s true, .t, .t, .t, .t, .t, .t, .t, .t, .t, .f, .s true, .s true, .t, .t, .t, .s true, .s false, .t, .t, .t, .t, .s true, .s false, .t, .f, .s true, .s true, .s true, .s true, .s true, .s true, .s true], 110⟩) (endP ([]) (YES) ([]) 6000) =
    (OkL [(pwOK P, true), (decide ((↑l : Int) > (1100 : Int)), false), (decide ((↑m : Int) > (200 : Int)), false), (decide ((↑l' : Int) > (1100 : Int)), false), (decide ((↑m' : Int) > (200 : Int)), false), (((0 : Nat) + l).ble l, true), (((0 : Nat) + l').ble l', true), (decide (m ≤ m) && (decide (m ≤ (100000 : Nat)) && decide ((bytesOf B [] (0 : Nat) l).length ≤ (100000 : Nat))), true), (decide (m ≤ m) && (decide (m ≤ (100000 : Nat)) && decide ((bytesOf B [] (0 : Nat) l).length ≤ (100000 : Nat))), true), (rightV (2 : Int) n (bytesOf B [] (0 : Nat) l).length m F, true), (decide (m' ≤ m') && (decide (m' ≤ (100000 : Nat)) && decide ((bytesOf B' [] (0 : Nat) l').length ≤ (100000 : Nat))), true), (rightV (2 : Int) n' (bytesOf B' [] (0 : Nat) l').length m' F', true), (rightV (2 : Int) n (bytesOf B [] (0 : Nat) l).length m F, true), (decide (m ≤ m) && (decide (m ≤ (1100 : Nat)) && rightR { K := (2 : Int), N := n, B := bytesOf B [] (0 : Nat) l, M := intsF F m }), true), (decide (m ≤ m) && (decide (l ≤ (100000 : Nat)) && decide (m ≤ (100000 : Nat))), true), (!rightV (2 : Int) n l m F, false), (decide (m' ≤ m') && (decide (l' ≤ (100000 : Nat)) && decide (m' ≤ (100000 : Nat))), true), (!rightV (2 : Int) n' l' m' F', false), (decide (m ≤ m) && (decide (l ≤ (100000 : Nat)) && decide (m ≤ (100000 : Nat))), true), (rightV (2 : Int) n l m F == rightV (2 : Int) n (bytesOf B [] (0 : Nat) l).length m F, true), (decide (m ≤ m) && (decide (l ≤ l) && (decide (l ≤ (100000 : Nat)) && (decide (m ≤ (1000 : Nat)) && (bndB B l && (rangeI F m && (pwOK P && inN n)))))), true), (lineV (2 : Int) n l m B F == lineR { K := (2 : Int), N := n, B := bytesOf B [] (0 : Nat) l, M := intsF F m }, true), (decide (l ≤ l) && (decide (m ≤ m) && (decide (l' ≤ l') && (decide (m' ≤ m') && decide (m ≤ (100000 : Nat))))), true), (decide (m ≤ m) && (decide (m' ≤ m') && decide (m ≤ (100000 : Nat))), true), (sameV (2 : Int) n (2 : Int) n' l m l' m' B B' F F' == sameT (2 : Int) n (2 : Int) n' (bytesOf B [] (0 : Nat) l) (bytesOf B' [] (0 : Nat) l') m m' F F', true)] ∧ true = allEq (upd (upd (upd (fun x => (0 : Int)) [(0 : Nat)] (IntKind.i64.wrap (IntKind.i64.wrap ((0 : Int) + (↑l : Int)) + (↑l' : Int)))) [(1 : Nat)] (IntKind.i64.wrap (IntKind.i64.wrap ((0 : Int) + n) + n'))) [(2 : Nat)] (0 : Int)) (fun js => upd (upd (upd (upd (fun x => (0 : Int)) [(0 : Nat)] (IntKind.i64.wrap ((0 : Int) + (↑(bytesOf B [] (0 : Nat) l).length : Int)))) [(1 : Nat)] (IntKind.i64.wrap (upd (fun x => (0 : Int)) [(0 : Nat)] (IntKind.i64.wrap ((0 : Int) + (↑(bytesOf B [] (0 : Nat) l).length : Int))) [(1 : Nat)] + n))) [(0 : Nat)] (IntKind.i64.wrap (upd (upd (fun x => (0 : Int)) [(0 : Nat)] (IntKind.i64.wrap ((0 : Int) + (↑(bytesOf B [] (0 : Nat) l).length : Int)))) [(1 : Nat)] (IntKind.i64.wrap (upd (fun x => (0 : Int)) [(0 : Nat)] (IntKind.i64.wrap ((0 : Int) + (↑(bytesOf B [] (0 : Nat) l).length : Int))) [(1 : Nat)] + n)) [(0 : Nat)] + (↑(bytesOf B' [] (0 : Nat) l').length : Int)))) [(1 : Nat)] (IntKind.i64.wrap (upd (upd (upd (fun x => (0 : Int)) [(0 : Nat)] (IntKind.i64.wrap ((0 : Int) + (↑(bytesOf B [] (0 : Nat) l).length : Int)))) [(1 : Nat)] (IntKind.i64.wrap (upd (fun x => (0 : Int)) [(0 : Nat)] (IntKind.i64.wrap ((0 : Int) + (↑(bytesOf B [] (0 : Nat) l).length : Int))) [(1 : Nat)] + n))) [(0 : Nat)] (IntKind.i64.wrap (upd (upd (fun x => (0 : Int)) [(0 : Nat)] (IntKind.i64.wrap ((0 : Int) + (↑(bytesOf B [] (0 : Nat) l).length : Int)))) [(1 : Nat)] (IntKind.i64.wrap (upd (fun x => (0 : Int)) [(0 : Nat)] (IntKind.i64.wrap ((0 : Int) + (↑(bytesOf B [] (0 : Nat) l).length : Int))) [(1 : Nat)] + n)) [(0 : Nat)] + (↑(bytesOf B' [] (0 : Nat) l').length : Int))) [(1 : Nat)] + n')) js) (3 : Nat) ∧ True) := by kernel_rfl

set_option maxHeartbeats 4000000 in
theorem el_2_2 (t0 t1 t2 : List UInt8) (P : Ix → Int) (n : Int) (l m : Nat) (B F : Ix → Int) (n' : Int) (l' m' : Nat) (B' F' : Ix → Int) (hP : pwOK P = true) (hB : bndB B l = true) (hF : rangeI F m = true) (hn : inN n = true) (hB' : bndB B' l' = true) (hF' : rangeI F' m' = true) (hn' : inN n' = true) (h1 : l ≤ 1100) (h2 : m ≤ 200) (h3 : l' ≤ 1100) (h4 : m' ≤ 200) (hr : rightV 2 n l m F = true) (hr' : rightV 2 n' l' m' F' = true)  :
    RunsTo Tryd.prog 7 [.code (bodyOf Tryd.f7)] (envOf [.agg (.tc (.vi .i64 fun _ => 2) (.tc (.vi .i64 fun _ => n) (.tc (.vl 100 (fun _ => 0) 1 [] (fun _ => l)) (.tc (.vl 101 (fun _ => 0) 1 [] (fun _ => m)) .t0)))), .agg (.tc (.vi .i64 fun _ => 2) (.tc (.vi .i64 fun _ => n') (.tc (.vl 102 (fun _ => 0) 1 [] (fun _ => l')) (.tc (.vl 103 (fun _ => 0) 1 [] (fun _ => m')) .t0))))] Tryd.f7.ntmps) (Sx.look ((rbS t0 t1 t2 ++ (pwF P ++ (([⟨100, false, none, 1, .ta l (.vi .u8 B)⟩] ++ [⟨101, false, none, 1, .ta m (.vi .i64 F)⟩]) ++ ([⟨102, false, none, 1, .ta l' (.vi .u8 B')⟩] ++ [⟨103, false, none, 1, .ta m' (.vi .i64 F')⟩])))) ++ ([]))) 110 (YES) (Sx.look ([])) 6000 := by
  have hl := lineV_T (B := B) hr
  have hR := rightR_T (B := B) hr
  refine runs_last baseEL (Sx.Ends.of (el_2_2_p0 t0 t1 t2 P n l m B F n' l' m' B' F') ⟨?oo, ?rr⟩) (by kernel_rfl) rfl (gtL (by decide)) (by decide)
  case oo =>
    refine (okc ?_ (okc ?_ (okc ?_ (okc ?_ (okc ?_ (okc ?_ (okc ?_ (okc ?_ (okc ?_ (okc ?_ (okc ?_ (okc ?_ (okc ?_ (okc ?_ (okc ?_ (okc ?_ (okc ?_ (okc ?_ (okc ?_ (okc ?_ (okc ?_ (okc ?_ (okc ?_ (okc ?_ (okc ?_ okn)))))))))))))))))))))))))
    all_goals ((try simp only [by_len, rightV_B, Go.Sx.sum, hr, hr', hl, sameV_T]); first | done | rfl | omega | assumption | exact hP | exact ⟨Nat.le_refl _, by omega, by omega⟩ | exact ⟨Nat.le_refl _, Nat.le_refl _, by omega, by omega, hB, hF, hP, hn⟩ | exact ⟨Nat.le_refl _, Nat.le_refl _, Nat.le_refl _, Nat.le_refl _, by omega⟩ | exact ⟨Nat.le_refl _, Nat.le_refl _, by omega⟩ | exact ⟨Nat.le_refl _, by omega, hR⟩ | (simp (disch := omega) only [SS, by_len, rightV_B, Go.Sx.sum, hr, hr', hl, sameV_T]; first | done | omega | assumption | exact hP | exact ⟨Nat.le_refl _, by omega, by omega⟩ | exact ⟨Nat.le_refl _, Nat.le_refl _, by omega, by omega, hB, hF, hP, hn⟩ | exact ⟨Nat.le_refl _, Nat.le_refl _, Nat.le_refl _, Nat.le_refl _, by omega⟩ | exact ⟨Nat.le_refl _, Nat.le_refl _, by omega⟩ | exact ⟨Nat.le_refl _, by omega, hR⟩) | (simp_all; done) | (simp_all; omega))
  case rr =>
    refine ⟨?_, trivial⟩
    (try simp only [by_len, rightV_B, Go.Sx.sum, hr, hr', hl, sameV_T])
    first | done | rfl | (simp [allEq, List.range, List.range.loop, upd]; done) | simp_all [allEq, List.range, List.range.loop, upd]

theorem el_2_3_p0 (t0 t1 t2 : List UInt8) (P : Ix → Int) (n : Int) (l m : Nat) (B F : Ix → Int) (n' : Int) (l' m' : Nat) (B' F' : Ix → Int) :
    isEnd (evTill Tryd.prog sumsEL 800 (99) 900 7 [.code (bodyOf Tryd.f7)] (envOf [.agg (.tc (.vi .i64 fun _ => 2) (.tc (.vi .i64 fun _ => n) (.tc (.vl 100 (fun _ => 0) 1 [] (fun _ => l)) (.tc (.vl 101 (fun _ => 0) 1 [] (fun _ => m)) .t0)))), .agg (.tc (.vi .i64 fun _ => 3) (.tc (.vi .i64 fun _ => n') (.tc (.vl 102 (fun _ => 0) 1 [] (fun _ => l')) (.tc (.vl 103 (fun _ => 0) 1 [] (fun _ => m')) .t0))))] Tryd.f7.ntmps) ((rbS t0 t1 t2 ++ (pwF P ++ (([⟨100, false, none, 1, .ta l (.vi .u8 B)⟩] ++ [⟨101, false, none, 1, .ta m (.vi .i64 F)⟩]) ++ ([⟨102, false, none, 1, .ta l' (.vi .u8 B')⟩] ++ [⟨103, false, none, 1, .ta m' (.vi .i64 F')⟩])))) ++ ([])) ⟨[.s true, .f, .s false, .s false, .s false, .s false, .s true, .s true, .s true, .t, .t, .t, .s true, .s true, .t, .t, .t, .t, .t, .t, .t, .t, .t, .t, .t, .t, .s true, .s true, .t, .t, .t, .t, .f, .t, .t, .t, .t, .t, .f, .s true, .s true, .t, .t, .t, .s true, .s false, .t, .t, .t, .t, .s true, .s false, .f, .t, .f, .s true, .s true, .s true, .s true, .s true, .s true, .t], 110⟩) (endP ([]) (YES) ([]) 6000) =
    (OkL [(pwOK P, true), (decide ((↑l : Int) > (1100 : Int)), false), (decide ((↑m : Int) > (200 : Int)), false), (decide ((↑l' : Int) > (1100 : Int)), false), (decide ((↑m' : Int) > (200 : Int)), false), (((0 : Nat) + l).ble l, true), (((0 : Nat) + l').ble l', true), (decide (m ≤ m) && (decide (m ≤ (100000 : Nat)) && decide ((bytesOf B [] (0 : Nat) l).length ≤ (100000 : Nat))), true), (decide (m ≤ m) && (decide (m ≤ (100000 : Nat)) && decide ((bytesOf B [] (0 : Nat) l).length ≤ (100000 : Nat))), true), (rightV (2 : Int) n (bytesOf B [] (0 : Nat) l).length m F, true), (decide (m' ≤ m') && (decide (m' ≤ (100000 : Nat)) && decide ((bytesOf B' [] (0 : Nat) l').length ≤ (100000 : Nat))), true), (rightV (3 : Int) n' (bytesOf B' [] (0 : Nat) l').length m' F', true), (rightV (2 : Int) n (bytesOf B [] (0 : Nat) l).length m F, true), (decide (m ≤ m) && (decide (m ≤ (1100 : Nat)) && rightR { K := (2 : Int), N := n, B := bytesOf B [] (0 : Nat) l, M := intsF F m }), true), (decide (m ≤ m) && (decide (l ≤ (100000 : Nat)) && decide (m ≤ (100000 : Nat))), true), (!rightV (2 : Int) n l m F, false), (decide (m' ≤ m') && (decide (l' ≤ (100000 : Nat)) && decide (m' ≤ (100000 : Nat))), true), (!rightV (3 : Int) n' l' m' F', false), (decide (m ≤ m) && (decide (l ≤ (100000 : Nat)) && decide (m ≤ (100000 : Nat))), true), (rightV (2 : Int) n l m F == rightV (2 : Int) n (bytesOf B [] (0 : Nat) l).length m F, true), (decide (m ≤ m) && (decide (l ≤ l) && (decide (l ≤ (100000 : Nat)) && (decide (m ≤ (1000 : Nat)) && (bndB B l && (rangeI F m && (pwOK P && inN n)))))), true), (lineV (2 : Int) n l m B F == lineR { K := (2 : Int), N := n, B := bytesOf B [] (0 : Nat) l, M := intsF F m }, true), (decide (l ≤ l) && (decide (m ≤ m) && (decide (l' ≤ l') && (decide (m' ≤ m') && decide (m ≤ (100000 : Nat))))), true), (decide (m ≤ m) && (decide (m' ≤ m') && decide (m ≤ (100000 : Nat))), true)] ∧ true = allEq (upd (upd (upd (fun x => (0 : Int)) [(0 : Nat)] (IntKind.i64.wrap (IntKind.i64.wrap ((0 : Int) + (↑l : Int)) + (↑l' : Int)))) [(1 : Nat)] (IntKind.i64.wrap ((0 : Int) + n))) [(2 : Nat)] (IntKind.i64.wrap ((0 : Int) + n'))) (fun js => upd (upd (upd (upd (fun x => (0 : Int)) [(0 : Nat)] (IntKind.i64.wrap ((0 : Int) + (↑(bytesOf B [] (0 : Nat) l).length : Int)))) [(1 : Nat)] (IntKind.i64.wrap (upd (fun x => (0 : Int)) [(0 : Nat)] (IntKind.i64.wrap ((0 : Int) + (↑(bytesOf B [] (0 : Nat) l).length : Int))) [(1 : Nat)] + n))) [(0 : Nat)] (IntKind.i64.wrap (upd (upd (fun x => (0 : Int)) [(0 : Nat)] (IntKind.i64.wrap ((0 : Int) + (↑(bytesOf B [] (0 : Nat) l).length : Int)))) [(1 : Nat)] (IntKind.i64.wrap (upd (fun x => (0 : Int)) [(0 : Nat)] (IntKind.i64.wrap ((0 : Int) + (↑(bytesOf B [] (0 : Nat) l).length : Int))) [(1 : Nat)] + n)) [(0 : Nat)] + (↑(bytesOf B' [] (0 : Nat) l').length : Int)))) [(2 : Nat)] (IntKind.i64.wrap (upd (upd (upd (fun x => (0 : Int)) [(0 : Nat)] (IntKind.i64.wrap ((0 : Int) + (↑(bytesOf B [] (0 : Nat) l).length : Int)))) [(1 : Nat)] (IntKind.i64.wrap (upd (fun x => (0 : Int)) [(0 : Nat)] (IntKind.i64.wrap ((0 : Int) + (↑(bytesOf B [] (0 : Nat) l).length : Int))) [(1 : Nat)] + n))) [(0 : Nat)] (IntKind.i64.wrap (upd (upd (fun x => (0 : Int)) [(0 : Nat)] (IntKind.i64.wrap ((0 : Int) + (↑(bytesOf B [] (0 : Nat) l).length : Int)))) [(1 : Nat)] (IntKind.i64.wrap (upd (fun x => (0 : Int)) [(0 : Nat)] (IntKind.i64.wrap ((0 : Int) + (↑(bytesOf B [] (0 : Nat) l).length : Int))) [(1 : Nat)] + n)) [(0 : Nat)] + (↑(bytesOf B' [] (0 : Nat) l').length : Int))) [(2 : Nat)] + n')) js) (3 : Nat) ∧ True) := by kernel_rfl

set_option maxHeartbeats 4000000 in
theorem el_2_3 (t0 t1 t2 : List UInt8) (P : Ix → Int) (n : Int) (l m : Nat) (B F : Ix → Int) (n' : Int) (l' m' : Nat) (B' F' : Ix → Int) (hP : pwOK P = true) (hB : bndB B l = true) (hF : rangeI F m = true) (hn : inN n = true) (hB' : bndB B' l' = true) (hF' : rangeI F' m' = true) (hn' : inN n' = true) (h1 : l ≤ 1100) (h2 : m ≤ 200) (h3 : l' ≤ 1100) (h4 : m' ≤ 200) (hr : rightV 2 n l m F = true) (hr' : rightV 3 n' l' m' F' = true)  :
    RunsTo Tryd.prog 7 [.code (bodyOf Tryd.f7)] (envOf [.agg (.tc (.vi .i64 fun _ => 2) (.tc (.vi .i64 fun _ => n) (.tc (.vl 100 (fun _ => 0) 1 [] (fun _ => l)) (.tc (.vl 101 (fun _ => 0) 1 [] (fun _ => m)) .t0)))), .agg (.tc (.vi .i64 fun _ => 3) (.tc (.vi .i64 fun _ => n') (.tc (.vl 102 (fun _ => 0) 1 [] (fun _ => l')) (.tc (.vl 103 (fun _ => 0) 1 [] (fun _ => m')) .t0))))] Tryd.f7.ntmps) (Sx.look ((rbS t0 t1 t2 ++ (pwF P ++ (([⟨100, false, none, 1, .ta l (.vi .u8 B)⟩] ++ [⟨101, false, none, 1, .ta m (.vi .i64 F)⟩]) ++ ([⟨102, false, none, 1, .ta l' (.vi .u8 B')⟩] ++ [⟨103, false, none, 1, .ta m' (.vi .i64 F')⟩])))) ++ ([]))) 110 (YES) (Sx.look ([])) 6000 := by
  have hl := lineV_T (B := B) hr
  have hR := rightR_T (B := B) hr
  refine runs_last baseEL (Sx.Ends.of (el_2_3_p0 t0 t1 t2 P n l m B F n' l' m' B' F') ⟨?oo, ?rr⟩) (by kernel_rfl) rfl (gtL (by decide)) (by decide)
  case oo =>
    refine (okc ?_ (okc ?_ (okc ?_ (okc ?_ (okc ?_ (okc ?_ (okc ?_ (okc ?_ (okc ?_ (okc ?_ (okc ?_ (okc ?_ (okc ?_ (okc ?_ (okc ?_ (okc ?_ (okc ?_ (okc ?_ (okc ?_ (okc ?_ (okc ?_ (okc ?_ (okc ?_ (okc ?_ okn))))))))))))))))))))))))
    all_goals ((try simp only [by_len, rightV_B, Go.Sx.sum, hr, hr', hl, sameV_T]); first | done | rfl | omega | assumption | exact hP | exact ⟨Nat.le_refl _, by omega, by omega⟩ | exact ⟨Nat.le_refl _, Nat.le_refl _, by omega, by omega, hB, hF, hP, hn⟩ | exact ⟨Nat.le_refl _, Nat.le_refl _, Nat.le_refl _, Nat.le_refl _, by omega⟩ | exact ⟨Nat.le_refl _, Nat.le_refl _, by omega⟩ | exact ⟨Nat.le_refl _, by omega, hR⟩ | (simp (disch := omega) only [SS, by_len, rightV_B, Go.Sx.sum, hr, hr', hl, sameV_T]; first | done | omega | assumption | exact hP | exact ⟨Nat.le_refl _, by omega, by omega⟩ | exact ⟨Nat.le_refl _, Nat.le_refl _, by omega, by omega, hB, hF, hP, hn⟩ | exact ⟨Nat.le_refl _, Nat.le_refl _, Nat.le_refl _, Nat.le_refl _, by omega⟩ | exact ⟨Nat.le_refl _, Nat.le_refl _, by omega⟩ | exact ⟨Nat.le_refl _, by omega, hR⟩) | (simp_all; done) | (simp_all; omega))
  case rr =>
    refine ⟨?_, trivial⟩
    (try simp only [by_len, rightV_B, Go.Sx.sum, hr, hr', hl, sameV_T])
    first | done | rfl | (simp [allEq, List.range, List.range.loop, upd]; done) | simp_all [allEq, List.range, List.range.loop, upd]

theorem el_2_o_p0 (t0 t1 t2 : List UInt8) (P : Ix → Int) (n : Int) (l m : Nat) (B F : Ix → Int) (k' n' : Int) (l' m' : Nat) (B' F' : Ix → Int) :
    isEnd (evTill Tryd.prog sumsEL 800 (99) 900 7 [.code (bodyOf Tryd.f7)] (envOf [.agg (.tc (.vi .i64 fun _ => 2) (.tc (.vi .i64 fun _ => n) (.tc (.vl 100 (fun _ => 0) 1 [] (fun _ => l)) (.tc (.vl 101 (fun _ => 0) 1 [] (fun _ => m)) .t0)))), .agg (.tc (.vi .i64 fun _ => k') (.tc (.vi .i64 fun _ => n') (.tc (.vl 102 (fun _ => 0) 1 [] (fun _ => l')) (.tc (.vl 103 (fun _ => 0) 1 [] (fun _ => m')) .t0))))] Tryd.f7.ntmps) ((rbS t0 t1 t2 ++ (pwF P ++ (([⟨100, false, none, 1, .ta l (.vi .u8 B)⟩] ++ [⟨101, false, none, 1, .ta m (.vi .i64 F)⟩]) ++ ([⟨102, false, none, 1, .ta l' (.vi .u8 B')⟩] ++ [⟨103, false, none, 1, .ta m' (.vi .i64 F')⟩])))) ++ ([])) ⟨[.s true, .f, .s false, .s false, .s false, .s false, .s true, .s true, .s true, .t, .t, .t, .s true, .s true, .t, .t, .t, .t, .t, .t, .t, .t, .t, .t, .t, .t, .s true, .s true, .t, .t, .t, .t, .s false, .s false, .f, .s true, .s true, .t, .t, .t, .s true, .s false, .t, .t, .t, .t, .s true, .s false, .s false, .s false, .f, .s true, .s true, .s true, .s true, .s true, .s true, .s true], 110⟩) (endP ([]) (YES) ([]) 6000) =
    (OkL [(pwOK P, true), (decide ((↑l : Int) > (1100 : Int)), false), (decide ((↑m : Int) > (200 : Int)), false), (decide ((↑l' : Int) > (1100 : Int)), false), (decide ((↑m' : Int) > (200 : Int)), false), (((0 : Nat) + l).ble l, true), (((0 : Nat) + l').ble l', true), (decide (m ≤ m) && (decide (m ≤ (100000 : Nat)) && decide ((bytesOf B [] (0 : Nat) l).length ≤ (100000 : Nat))), true), (decide (m ≤ m) && (decide (m ≤ (100000 : Nat)) && decide ((bytesOf B [] (0 : Nat) l).length ≤ (100000 : Nat))), true), (rightV (2 : Int) n (bytesOf B [] (0 : Nat) l).length m F, true), (decide (m' ≤ m') && (decide (m' ≤ (100000 : Nat)) && decide ((bytesOf B' [] (0 : Nat) l').length ≤ (100000 : Nat))), true), (rightV k' n' (bytesOf B' [] (0 : Nat) l').length m' F', true), (k' == (2 : Int), false), (k' == (3 : Int), false), (rightV (2 : Int) n (bytesOf B [] (0 : Nat) l).length m F, true), (decide (m ≤ m) && (decide (m ≤ (1100 : Nat)) && rightR { K := (2 : Int), N := n, B := bytesOf B [] (0 : Nat) l, M := intsF F m }), true), (decide (m ≤ m) && (decide (l ≤ (100000 : Nat)) && decide (m ≤ (100000 : Nat))), true), (!rightV (2 : Int) n l m F, false), (decide (m' ≤ m') && (decide (l' ≤ (100000 : Nat)) && decide (m' ≤ (100000 : Nat))), true), (!rightV k' n' l' m' F', false), (k' == (2 : Int), false), (k' == (3 : Int), false), (decide (m ≤ m) && (decide (l ≤ (100000 : Nat)) && decide (m ≤ (100000 : Nat))), true), (rightV (2 : Int) n l m F == rightV (2 : Int) n (bytesOf B [] (0 : Nat) l).length m F, true), (decide (m ≤ m) && (decide (l ≤ l) && (decide (l ≤ (100000 : Nat)) && (decide (m ≤ (1000 : Nat)) && (bndB B l && (rangeI F m && (pwOK P && inN n)))))), true), (lineV (2 : Int) n l m B F == lineR { K := (2 : Int), N := n, B := bytesOf B [] (0 : Nat) l, M := intsF F m }, true), (decide (l ≤ l) && (decide (m ≤ m) && (decide (l' ≤ l') && (decide (m' ≤ m') && decide (m ≤ (100000 : Nat))))), true), (decide (m ≤ m) && (decide (m' ≤ m') && decide (m ≤ (100000 : Nat))), true), (sameV (2 : Int) n k' n' l m l' m' B B' F F' == sameT (2 : Int) n k' n' (bytesOf B [] (0 : Nat) l) (bytesOf B' [] (0 : Nat) l') m m' F F', true)] ∧ true = allEq (upd (upd (upd (fun x => (0 : Int)) [(0 : Nat)] (IntKind.i64.wrap (IntKind.i64.wrap ((0 : Int) + (↑l : Int)) + (↑l' : Int)))) [(1 : Nat)] (IntKind.i64.wrap ((0 : Int) + n))) [(2 : Nat)] (0 : Int)) (fun js => upd (upd (upd (fun x => (0 : Int)) [(0 : Nat)] (IntKind.i64.wrap ((0 : Int) + (↑(bytesOf B [] (0 : Nat) l).length : Int)))) [(1 : Nat)] (IntKind.i64.wrap (upd (fun x => (0 : Int)) [(0 : Nat)] (IntKind.i64.wrap ((0 : Int) + (↑(bytesOf B [] (0 : Nat) l).length : Int))) [(1 : Nat)] + n))) [(0 : Nat)] (IntKind.i64.wrap (upd (upd (fun x => (0 : Int)) [(0 : Nat)] (IntKind.i64.wrap ((0 : Int) + (↑(bytesOf B [] (0 : Nat) l).length : Int)))) [(1 : Nat)] (IntKind.i64.wrap (upd (fun x => (0 : Int)) [(0 : Nat)] (IntKind.i64.wrap ((0 : Int) + (↑(bytesOf B [] (0 : Nat) l).length : Int))) [(1 : Nat)] + n)) [(0 : Nat)] + (↑(bytesOf B' [] (0 : Nat) l').length : Int))) js) (3 : Nat) ∧ True) := by kernel_rfl

set_option maxHeartbeats 4000000 in
theorem el_2_o (t0 t1 t2 : List UInt8) (P : Ix → Int) (n : Int) (l m : Nat) (B F : Ix → Int) (k' n' : Int) (l' m' : Nat) (B' F' : Ix → Int) (hP : pwOK P = true) (hB : bndB B l = true) (hF : rangeI F m = true) (hn : inN n = true) (hB' : bndB B' l' = true) (hF' : rangeI F' m' = true) (hn' : inN n' = true) (h1 : l ≤ 1100) (h2 : m ≤ 200) (h3 : l' ≤ 1100) (h4 : m' ≤ 200) (hr : rightV 2 n l m F = true) (hr' : rightV k' n' l' m' F' = true) (hx' : k' ≠ 2) (hy' : k' ≠ 3)  :
    RunsTo Tryd.prog 7 [.code (bodyOf Tryd.f7)] (envOf [.agg (.tc (.vi .i64 fun _ => 2) (.tc (.vi .i64 fun _ => n) (.tc (.vl 100 (fun _ => 0) 1 [] (fun _ => l)) (.tc (.vl 101 (fun _ => 0) 1 [] (fun _ => m)) .t0)))), .agg (.tc (.vi .i64 fun _ => k') (.tc (.vi .i64 fun _ => n') (.tc (.vl 102 (fun _ => 0) 1 [] (fun _ => l')) (.tc (.vl 103 (fun _ => 0) 1 [] (fun _ => m')) .t0))))] Tryd.f7.ntmps) (Sx.look ((rbS t0 t1 t2 ++ (pwF P ++ (([⟨100, false, none, 1, .ta l (.vi .u8 B)⟩] ++ [⟨101, false, none, 1, .ta m (.vi .i64 F)⟩]) ++ ([⟨102, false, none, 1, .ta l' (.vi .u8 B')⟩] ++ [⟨103, false, none, 1, .ta m' (.vi .i64 F')⟩])))) ++ ([]))) 110 (YES) (Sx.look ([])) 6000 := by
  have hl := lineV_T (B := B) hr
  have hR := rightR_T (B := B) hr
  refine runs_last baseEL (Sx.Ends.of (el_2_o_p0 t0 t1 t2 P n l m B F k' n' l' m' B' F') ⟨?oo, ?rr⟩) (by kernel_rfl) rfl (gtL (by decide)) (by decide)
  case oo =>
    refine (okc ?_ (okc ?_ (okc ?_ (okc ?_ (okc ?_ (okc ?_ (okc ?_ (okc ?_ (okc ?_ (okc ?_ (okc ?_ (okc ?_ (okc ?_ (okc ?_ (okc ?_ (okc ?_ (okc ?_ (okc ?_ (okc ?_ (okc ?_ (okc ?_ (okc ?_ (okc ?_ (okc ?_ (okc ?_ (okc ?_ (okc ?_ (okc ?_ (okc ?_ okn)))))))))))))))))))))))))))))
    all_goals ((try simp only [by_len, rightV_B, Go.Sx.sum, hr, hr', hl, sameV_T]); first | done | rfl | omega | assumption | exact hP | exact ⟨Nat.le_refl _, by omega, by omega⟩ | exact ⟨Nat.le_refl _, Nat.le_refl _, by omega, by omega, hB, hF, hP, hn⟩ | exact ⟨Nat.le_refl _, Nat.le_refl _, Nat.le_refl _, Nat.le_refl _, by omega⟩ | exact ⟨Nat.le_refl _, Nat.le_refl _, by omega⟩ | exact ⟨Nat.le_refl _, by omega, hR⟩ | (simp (disch := omega) only [SS, by_len, rightV_B, Go.Sx.sum, hr, hr', hl, sameV_T]; first | done | omega | assumption | exact hP | exact ⟨Nat.le_refl _, by omega, by omega⟩ | exact ⟨Nat.le_refl _, Nat.le_refl _, by omega, by omega, hB, hF, hP, hn⟩ | exact ⟨Nat.le_refl _, Nat.le_refl _, Nat.le_refl _, Nat.le_refl _, by omega⟩ | exact ⟨Nat.le_refl _, Nat.le_refl _, by omega⟩ | exact ⟨Nat.le_refl _, by omega, hR⟩) | (simp_all; done) | (simp_all; omega))
  case rr =>
    refine ⟨?_, trivial⟩
    (try simp only [by_len, rightV_B, Go.Sx.sum, hr, hr', hl, sameV_T])
    first | done | rfl | (simp [allEq, List.range, List.range.loop, upd]; done) | simp_all [allEq, List.range, List.range.loop, upd]

theorem el_3_bad_p0 (t0 t1 t2 : List UInt8) (P : Ix → Int) (n : Int) (l m : Nat) (B F : Ix → Int) (k' n' : Int) (l' m' : Nat) (B' F' : Ix → Int) :
    isEnd (evTill Tryd.prog sumsEL 800 (99) 900 7 [.code (bodyOf Tryd.f7)] (envOf [.agg (.tc (.vi .i64 fun _ => 3) (.tc (.vi .i64 fun _ => n) (.tc (.vl 100 (fun _ => 0) 1 [] (fun _ => l)) (.tc (.vl 101 (fun _ => 0) 1 [] (fun _ => m)) .t0)))), .agg (.tc (.vi .i64 fun _ => k') (.tc (.vi .i64 fun _ => n') (.tc (.vl 102 (fun _ => 0) 1 [] (fun _ => l')) (.tc (.vl 103 (fun _ => 0) 1 [] (fun _ => m')) .t0))))] Tryd.f7.ntmps) ((rbS t0 t1 t2 ++ (pwF P ++ (([⟨100, false, none, 1, .ta l (.vi .u8 B)⟩] ++ [⟨101, false, none, 1, .ta m (.vi .i64 F)⟩]) ++ ([⟨102, false, none, 1, .ta l' (.vi .u8 B')⟩] ++ [⟨103, false, none, 1, .ta m' (.vi .i64 F')⟩])))) ++ ([])) ⟨[.s true, .f, .s false, .s false, .s false, .s false, .s true, .s true, .s true, .t, .t, .t, .s true, .s true, .t, .t, .t, .t, .f, .t, .t, .t, .t, .t, .t, .t, .t, .s true, .s false, .f, .s true, .s true, .t, .t, .t, .s true, .s false, .f, .t, .t, .t, .t, .s true, .s true, .f, .s true, .s true, .s true, .s true, .s true, .s true, .s true], 110⟩) (endP ([]) (YES) ([]) 6000) =
    (OkL [(pwOK P, true), (decide ((↑l : Int) > (1100 : Int)), false), (decide ((↑m : Int) > (200 : Int)), false), (decide ((↑l' : Int) > (1100 : Int)), false), (decide ((↑m' : Int) > (200 : Int)), false), (((0 : Nat) + l).ble l, true), (((0 : Nat) + l').ble l', true), (decide (m ≤ m) && (decide (m ≤ (100000 : Nat)) && decide ((bytesOf B [] (0 : Nat) l).length ≤ (100000 : Nat))), true), (decide (m ≤ m) && (decide (m ≤ (100000 : Nat)) && decide ((bytesOf B [] (0 : Nat) l).length ≤ (100000 : Nat))), true), (rightV (3 : Int) n (bytesOf B [] (0 : Nat) l).length m F, true), (decide (m' ≤ m') && (decide (m' ≤ (100000 : Nat)) && decide ((bytesOf B' [] (0 : Nat) l').length ≤ (100000 : Nat))), true), (rightV k' n' (bytesOf B' [] (0 : Nat) l').length m' F', false), (rightV (3 : Int) n (bytesOf B [] (0 : Nat) l).length m F, true), (decide (m ≤ m) && (decide (m ≤ (1100 : Nat)) && rightR { K := (3 : Int), N := n, B := bytesOf B [] (0 : Nat) l, M := intsF F m }), true), (decide (m ≤ m) && (decide (l ≤ (100000 : Nat)) && decide (m ≤ (100000 : Nat))), true), (!rightV (3 : Int) n l m F, false), (decide (m' ≤ m') && (decide (l' ≤ (100000 : Nat)) && decide (m' ≤ (100000 : Nat))), true), (!rightV k' n' l' m' F', true), (decide (m ≤ m) && (decide (l ≤ (100000 : Nat)) && decide (m ≤ (100000 : Nat))), true), (rightV (3 : Int) n l m F == rightV (3 : Int) n (bytesOf B [] (0 : Nat) l).length m F, true), (decide (m ≤ m) && (decide (l ≤ l) && (decide (l ≤ (100000 : Nat)) && (decide (m ≤ (1000 : Nat)) && (bndB B l && (rangeI F m && (pwOK P && inN n)))))), true), (lineV (3 : Int) n l m B F == lineR { K := (3 : Int), N := n, B := bytesOf B [] (0 : Nat) l, M := intsF F m }, true), (decide (l ≤ l) && (decide (m ≤ m) && (decide (l' ≤ l') && (decide (m' ≤ m') && decide (m ≤ (100000 : Nat))))), true), (decide (m ≤ m) && (decide (m' ≤ m') && decide (m ≤ (100000 : Nat))), true), (sameV (3 : Int) n k' n' l m l' m' B B' F F' == sameT (3 : Int) n k' n' (bytesOf B [] (0 : Nat) l) (bytesOf B' [] (0 : Nat) l') m m' F F', true)] ∧ true = allEq (upd (upd (upd (fun x => (0 : Int)) [(0 : Nat)] (IntKind.i64.wrap ((0 : Int) + (↑l : Int)))) [(1 : Nat)] (0 : Int)) [(2 : Nat)] (IntKind.i64.wrap ((0 : Int) + n))) (fun js => upd (upd (fun x => (0 : Int)) [(0 : Nat)] (IntKind.i64.wrap ((0 : Int) + (↑(bytesOf B [] (0 : Nat) l).length : Int)))) [(2 : Nat)] (IntKind.i64.wrap (upd (fun x => (0 : Int)) [(0 : Nat)] (IntKind.i64.wrap ((0 : Int) + (↑(bytesOf B [] (0 : Nat) l).length : Int))) [(2 : Nat)] + n)) js) (3 : Nat) ∧ True) := by kernel_rfl

set_option maxHeartbeats 4000000 in
theorem el_3_bad (t0 t1 t2 : List UInt8) (P : Ix → Int) (n : Int) (l m : Nat) (B F : Ix → Int) (k' n' : Int) (l' m' : Nat) (B' F' : Ix → Int) (hP : pwOK P = true) (hB : bndB B l = true) (hF : rangeI F m = true) (hn : inN n = true) (hB' : bndB B' l' = true) (hF' : rangeI F' m' = true) (hn' : inN n' = true) (h1 : l ≤ 1100) (h2 : m ≤ 200) (h3 : l' ≤ 1100) (h4 : m' ≤ 200) (hr : rightV 3 n l m F = true) (hr' : rightV k' n' l' m' F' = false)  :
    RunsTo Tryd.prog 7 [.code (bodyOf Tryd.f7)] (envOf [.agg (.tc (.vi .i64 fun _ => 3) (.tc (.vi .i64 fun _ => n) (.tc (.vl 100 (fun _ => 0) 1 [] (fun _ => l)) (.tc (.vl 101 (fun _ => 0) 1 [] (fun _ => m)) .t0)))), .agg (.tc (.vi .i64 fun _ => k') (.tc (.vi .i64 fun _ => n') (.tc (.vl 102 (fun _ => 0) 1 [] (fun _ => l')) (.tc (.vl 103 (fun _ => 0) 1 [] (fun _ => m')) .t0))))] Tryd.f7.ntmps) (Sx.look ((rbS t0 t1 t2 ++ (pwF P ++ (([⟨100, false, none, 1, .ta l (.vi .u8 B)⟩] ++ [⟨101, false, none, 1, .ta m (.vi .i64 F)⟩]) ++ ([⟨102, false, none, 1, .ta l' (.vi .u8 B')⟩] ++ [⟨103, false, none, 1, .ta m' (.vi .i64 F')⟩])))) ++ ([]))) 110 (YES) (Sx.look ([])) 6000 := by
  have hl := lineV_T (B := B) hr
  have hR := rightR_T (B := B) hr
  refine runs_last baseEL (Sx.Ends.of (el_3_bad_p0 t0 t1 t2 P n l m B F k' n' l' m' B' F') ⟨?oo, ?rr⟩) (by kernel_rfl) rfl (gtL (by decide)) (by decide)
  case oo =>
    refine (okc ?_ (okc ?_ (okc ?_ (okc ?_ (okc ?_ (okc ?_ (okc ?_ (okc ?_ (okc ?_ (okc ?_ (okc ?_ (okc ?_ (okc ?_ (okc ?_ (okc ?_ (okc ?_ (okc ?_ (okc ?_ (okc ?_ (okc ?_ (okc ?_ (okc ?_ (okc ?_ (okc ?_ (okc ?_ okn)))))))))))))))))))))))))
    all_goals ((try simp only [by_len, rightV_B, Go.Sx.sum, hr, hr', hl, sameV_T]); first | done | rfl | omega | assumption | exact hP | exact ⟨Nat.le_refl _, by omega, by omega⟩ | exact ⟨Nat.le_refl _, Nat.le_refl _, by omega, by omega, hB, hF, hP, hn⟩ | exact ⟨Nat.le_refl _, Nat.le_refl _, Nat.le_refl _, Nat.le_refl _, by omega⟩ | exact ⟨Nat.le_refl _, Nat.le_refl _, by omega⟩ | exact ⟨Nat.le_refl _, by omega, hR⟩ | (simp (disch := omega) only [SS, by_len, rightV_B, Go.Sx.sum, hr, hr', hl, sameV_T]; first | done | omega | assumption | exact hP | exact ⟨Nat.le_refl _, by omega, by omega⟩ | exact ⟨Nat.le_refl _, Nat.le_refl _, by omega, by omega, hB, hF, hP, hn⟩ | exact ⟨Nat.le_refl _, Nat.le_refl _, Nat.le_refl _, Nat.le_refl _, by omega⟩ | exact ⟨Nat.le_refl _, Nat.le_refl _, by omega⟩ | exact ⟨Nat.le_refl _, by omega, hR⟩) | (simp_all; done) | (simp_all; omega))
  case rr =>
    refine ⟨?_, trivial⟩
    (try simp only [by_len, rightV_B, Go.Sx.sum, hr, hr', hl, sameV_T])
    first | done | rfl | (simp [allEq, List.range, List.range.loop, upd]; done) | simp_all [allEq, List.range, List.range.loop, upd]

theorem el_3_2_p0 (t0 t1 t2 : List UInt8) (P : Ix → Int) (n : Int) (l m : Nat) (B F : Ix → Int) (n' : Int) (l' m' : Nat) (B' F' : Ix → Int) :
    isEnd (evTill Tryd.prog sumsEL 800 (99) 900 7 [.code (bodyOf Tryd.f7)] (envOf [.agg (.tc (.vi .i64 fun _ => 3) (.tc (.vi .i64 fun _ => n) (.tc (.vl 100 (fun _ => 0) 1 [] (fun _ => l)) (.tc (.vl 101 (fun _ => 0) 1 [] (fun _ => m)) .t0)))), .agg (.tc (.vi .i64 fun _ => 2) (.tc (.vi .i64 fun _ => n') (.tc (.vl 102 (fun _ => 0) 1 [] (fun _ => l')) (.tc (.vl 103 (fun _ => 0) 1 [] (fun _ => m')) .t0))))] Tryd.f7.ntmps) ((rbS t0 t1 t2 ++ (pwF P ++ (([⟨100, false, none, 1, .ta l (.vi .u8 B)⟩] ++ [⟨101, false, none, 1, .ta m (.vi .i64 F)⟩]) ++ ([⟨102, false, none, 1, .ta l' (.vi .u8 B')⟩] ++ [⟨103, false, none, 1, .ta m' (.vi .i64 F')⟩])))) ++ ([])) ⟨[.s true, .f, .s false, .s false, .s false, .s false, .s true, .s true, .s true, .t, .t, .t, .s true, .s true, .t, .t, .t, .t, .f, .t, .t, .t, .t, .t, .t, .t, .t, .s true, .s true, .t, .t, .t, .t, .t, .t, .t, .t, .t, .f, .s true, .s true, .t, .t, .t, .s true, .s false, .f, .t, .t, .t, .t, .s true, .s false, .t, .f, .s true, .s true, .s true, .s true, .s true, .s true, .t], 110⟩) (endP ([]) (YES) ([]) 6000) =
    (OkL [(pwOK P, true), (decide ((↑l : Int) > (1100 : Int)), false), (decide ((↑m : Int) > (200 : Int)), false), (decide ((↑l' : Int) > (1100 : Int)), false), (decide ((↑m' : Int) > (200 : Int)), false), (((0 : Nat) + l).ble l, true), (((0 : Nat) + l').ble l', true), (decide (m ≤ m) && (decide (m ≤ (100000 : Nat)) && decide ((bytesOf B [] (0 : Nat) l).length ≤ (100000 : Nat))), true), (decide (m ≤ m) && (decide (m ≤ (100000 : Nat)) && decide ((bytesOf B [] (0 : Nat) l).length ≤ (100000 : Nat))), true), (rightV (3 : Int) n (bytesOf B [] (0 : Nat) l).length m F, true), (decide (m' ≤ m') && (decide (m' ≤ (100000 : Nat)) && decide ((bytesOf B' [] (0 : Nat) l').length ≤ (100000 : Nat))), true), (rightV (2 : Int) n' (bytesOf B' [] (0 : Nat) l').length m' F', true), (rightV (3 : Int) n (bytesOf B [] (0 : Nat) l).length m F, true), (decide (m ≤ m) && (decide (m ≤ (1100 : Nat)) && rightR { K := (3 : Int), N := n, B := bytesOf B [] (0 : Nat) l, M := intsF F m }), true), (decide (m ≤ m) && (decide (l ≤ (100000 : Nat)) && decide (m ≤ (100000 : Nat))), true), (!rightV (3 : Int) n l m F, false), (decide (m' ≤ m') && (decide (l' ≤ (100000 : Nat)) && decide (m' ≤ (100000 : Nat))), true), (!rightV (2 : Int) n' l' m' F', false), (decide (m ≤ m) && (decide (l ≤ (100000 : Nat)) && decide (m ≤ (100000 : Nat))), true), (rightV (3 : Int) n l m F == rightV (3 : Int) n (bytesOf B [] (0 : Nat) l).length m F, true), (decide (m ≤ m) && (decide (l ≤ l) && (decide (l ≤ (100000 : Nat)) && (decide (m ≤ (1000 : Nat)) && (bndB B l && (rangeI F m && (pwOK P && inN n)))))), true), (lineV (3 : Int) n l m B F == lineR { K := (3 : Int), N := n, B := bytesOf B [] (0 : Nat) l, M := intsF F m }, true), (decide (l ≤ l) && (decide (m ≤ m) && (decide (l' ≤ l') && (decide (m' ≤ m') && decide (m ≤ (100000 : Nat))))), true), (decide (m ≤ m) && (decide (m' ≤ m') && decide (m ≤ (100000 : Nat))), true)] ∧ true = allEq (upd (upd (upd (fun x => (0 : Int)) [(0 : Nat)] (IntKind.i64.wrap (IntKind.i64.wrap ((0 : Int) + (↑l : Int)) + (↑l' : Int)))) [(1 : Nat)] (IntKind.i64.wrap ((0 : Int) + n'))) [(2 : Nat)] (IntKind.i64.wrap ((0 : Int) + n))) (fun js => upd (upd (upd (upd (fun x => (0 : Int)) [(0 : Nat)] (IntKind.i64.wrap ((0 : Int) + (↑(bytesOf B [] (0 : Nat) l).length : Int)))) [(2 : Nat)] (IntKind.i64.wrap (upd (fun x => (0 : Int)) [(0 : Nat)] (IntKind.i64.wrap ((0 : Int) + (↑(bytesOf B [] (0 : Nat) l).length : Int))) [(2 : Nat)] + n))) [(0 : Nat)] (IntKind.i64.wrap (upd (upd (fun x => (0 : Int)) [(0 : Nat)] (IntKind.i64.wrap ((0 : Int) + (↑(bytesOf B [] (0 : Nat) l).length : Int)))) [(2 : Nat)] (IntKind.i64.wrap (upd (fun x => (0 : Int)) [(0 : Nat)] (IntKind.i64.wrap ((0 : Int) + (↑(bytesOf B [] (0 : Nat) l).length : Int))) [(2 : Nat)] + n)) [(0 : Nat)] + (↑(bytesOf B' [] (0 : Nat) l').length : Int)))) [(1 : Nat)] (IntKind.i64.wrap (upd (upd (upd (fun x => (0 : Int)) [(0 : Nat)] (IntKind.i64.wrap ((0 : Int) + (↑(bytesOf B [] (0 : Nat) l).length : Int)))) [(2 : Nat)] (IntKind.i64.wrap (upd (fun x => (0 : Int)) [(0 : Nat)] (IntKind.i64.wrap ((0 : Int) + (↑(bytesOf B [] (0 : Nat) l).length : Int))) [(2 : Nat)] + n))) [(0 : Nat)] (IntKind.i64.wrap (upd (upd (fun x => (0 : Int)) [(0 : Nat)] (IntKind.i64.wrap ((0 : Int) + (↑(bytesOf B [] (0 : Nat) l).length : Int)))) [(2 : Nat)] (IntKind.i64.wrap (upd (fun x => (0 : Int)) [(0 : Nat)] (IntKind.i64.wrap ((0 : Int) + (↑(bytesOf B [] (0 : Nat) l).length : Int))) [(2 : Nat)] + n)) [(0 : Nat)] + (↑(bytesOf B' [] (0 : Nat) l').length : Int))) [(1 : Nat)] + n')) js) (3 : Nat) ∧ True) := by kernel_rfl

set_option maxHeartbeats 4000000 in
theorem el_3_2 (t0 t1 t2 : List UInt8) (P : Ix → Int) (n : Int) (l m : Nat) (B F : Ix → Int) (n' : Int) (l' m' : Nat) (B' F' : Ix → Int) (hP : pwOK P = true) (hB : bndB B l = true) (hF : rangeI F m = true) (hn : inN n = true) (hB' : bndB B' l' = true) (hF' : rangeI F' m' = true) (hn' : inN n' = true) (h1 : l ≤ 1100) (h2 : m ≤ 200) (h3 : l' ≤ 1100) (h4 : m' ≤ 200) (hr : rightV 3 n l m F = true) (hr' : rightV 2 n' l' m' F' = true)  :
    RunsTo Tryd.prog 7 [.code (bodyOf Tryd.f7)] (envOf [.agg (.tc (.vi .i64 fun _ => 3) (.tc (.vi .i64 fun _ => n) (.tc (.vl 100 (fun _ => 0) 1 [] (fun _ => l)) (.tc (.vl 101 (fun _ => 0) 1 [] (fun _ => m)) .t0)))), .agg (.tc (.vi .i64 fun _ => 2) (.tc (.vi .i64 fun _ => n') (.tc (.vl 102 (fun _ => 0) 1 [] (fun _ => l')) (.tc (.vl 103 (fun _ => 0) 1 [] (fun _ => m')) .t0))))] Tryd.f7.ntmps) (Sx.look ((rbS t0 t1 t2 ++ (pwF P ++ (([⟨100, false, none, 1, .ta l (.vi .u8 B)⟩] ++ [⟨101, false, none, 1, .ta m (.vi .i64 F)⟩]) ++ ([⟨102, false, none, 1, .ta l' (.vi .u8 B')⟩] ++ [⟨103, false, none, 1, .ta m' (.vi .i64 F')⟩])))) ++ ([]))) 110 (YES) (Sx.look ([])) 6000 := by
  have hl := lineV_T (B := B) hr
  have hR := rightR_T (B := B) hr
  refine runs_last baseEL (Sx.Ends.of (el_3_2_p0 t0 t1 t2 P n l m B F n' l' m' B' F') ⟨?oo, ?rr⟩) (by kernel_rfl) rfl (gtL (by decide)) (by decide)
  case oo =>
    refine (okc ?_ (okc ?_ (okc ?_ (okc ?_ (okc ?_ (okc ?_ (okc ?_ (okc ?_ (okc ?_ (okc ?_ (okc ?_ (okc ?_ (okc ?_ (okc ?_ (okc ?_ (okc ?_ (okc ?_ (okc ?_ (okc ?_ (okc ?_ (okc ?_ (okc ?_ (okc ?_ (okc ?_ okn))))))))))))))))))))))))
    all_goals ((try simp only [by_len, rightV_B, Go.Sx.sum, hr, hr', hl, sameV_T]); first | done | rfl | omega | assumption | exact hP | exact ⟨Nat.le_refl _, by omega, by omega⟩ | exact ⟨Nat.le_refl _, Nat.le_refl _, by omega, by omega, hB, hF, hP, hn⟩ | exact ⟨Nat.le_refl _, Nat.le_refl _, Nat.le_refl _, Nat.le_refl _, by omega⟩ | exact ⟨Nat.le_refl _, Nat.le_refl _, by omega⟩ | exact ⟨Nat.le_refl _, by omega, hR⟩ | (simp (disch := omega) only [SS, by_len, rightV_B, Go.Sx.sum, hr, hr', hl, sameV_T]; first | done | omega | assumption | exact hP | exact ⟨Nat.le_refl _, by omega, by omega⟩ | exact ⟨Nat.le_refl _, Nat.le_refl _, by omega, by omega, hB, hF, hP, hn⟩ | exact ⟨Nat.le_refl _, Nat.le_refl _, Nat.le_refl _, Nat.le_refl _, by omega⟩ | exact ⟨Nat.le_refl _, Nat.le_refl _, by omega⟩ | exact ⟨Nat.le_refl _, by omega, hR⟩) | (simp_all; done) | (simp_all; omega))
  case rr =>
    refine ⟨?_, trivial⟩
    (try simp only [by_len, rightV_B, Go.Sx.sum, hr, hr', hl, sameV_T])
    first | done | rfl | (simp [allEq, List.range, List.range.loop, upd]; done) | simp_all [allEq, List.range, List.range.loop, upd]

theorem el_3_3_p0 (t0 t1 t2 : List UInt8) (P : Ix → Int) (n : Int) (l m : Nat) (B F : Ix → Int) (n' : Int) (l' m' : Nat) (B' F' : Ix → Int) :
    isEnd (evTill Tryd.prog sumsEL 800 (99) 900 7 [.code (bodyOf Tryd.f7)] (envOf [.agg (.tc (.vi .i64 fun _ => 3) (.tc (.vi .i64 fun _ => n) (.tc (.vl 100 (fun _ => 0) 1 [] (fun _ => l)) (.tc (.vl 101 (fun _ => 0) 1 [] (fun _ => m)) .t0)))), .agg (.tc (.vi .i64 fun _ => 3) (.tc (.vi .i64 fun _ => n') (.tc (.vl 102 (fun _ => 0) 1 [] (fun _ => l')) (.tc (.vl 103 (fun _ => 0) 1 [] (fun _ => m')) .t0))))] Tryd.f7.ntmps) ((rbS t0 t1 t2 ++ (pwF P ++ (([⟨100, false, none, 1, .ta l (.vi .u8 B)⟩] ++ [⟨101, false, none, 1, .ta m (.vi .i64 F)⟩]) ++ ([⟨102, false, none, 1, .ta l' (.vi .u8 B')⟩] ++ [⟨103, false, none, 1, .ta m' (.vi .i64 F')⟩])))) ++ ([])) ⟨[.s true, .f, .s false, .s false, .s false, .s false, .s true, .s true, .s true, .t, .t, .t, .s true, .s true, .t, .t, .t, .t, .f, .t, .t, .t, .t, .t, .t, .t, .t, .s true, .s true, .t, .t, .t, .t, .f, .t, .t, .t, .t, .t, .f, .s true, .s true, .t, .t, .t, .s true, .s false, .f, .t, .t, .t, .t, .s true, .s false, .f, .t, .f, .s true, .s true, .s true, .s true, .s true, .s true, .s true], 110⟩) (endP ([]) (YES) ([]) 6000) =
    (OkL [(pwOK P, true), (decide ((↑l : Int) > (1100 : Int)), false), (decide ((↑m : Int) > (200 : Int)), false), (decide ((↑l' : Int) > (1100 : Int)), false), (decide ((↑m' : Int) > (200 : Int)), false), (((0 : Nat) + l).ble l, true), (((0 : Nat) + l').ble l', true), (decide (m ≤ m) && (decide (m ≤ (100000 : Nat)) && decide ((bytesOf B [] (0 : Nat) l).length ≤ (100000 : Nat))), true), (decide (m ≤ m) && (decide (m ≤ (100000 : Nat)) && decide ((bytesOf B [] (0 : Nat) l).length ≤ (100000 : Nat))), true), (rightV (3 : Int) n (bytesOf B [] (0 : Nat) l).length m F, true), (decide (m' ≤ m') && (decide (m' ≤ (100000 : Nat)) && decide ((bytesOf B' [] (0 : Nat) l').length ≤ (100000 : Nat))), true), (rightV (3 : Int) n' (bytesOf B' [] (0 : Nat) l').length m' F', true), (rightV (3 : Int) n (bytesOf B [] (0 : Nat) l).length m F, true), (decide (m ≤ m) && (decide (m ≤ (1100 : Nat)) && rightR { K := (3 : Int), N := n, B := bytesOf B [] (0 : Nat) l, M := intsF F m }), true), (decide (m ≤ m) && (decide (l ≤ (100000 : Nat)) && decide (m ≤ (100000 : Nat))), true), (!rightV (3 : Int) n l m F, false), (decide (m' ≤ m') && (decide (l' ≤ (100000 : Nat)) && decide (m' ≤ (100000 : Nat))), true), (!rightV (3 : Int) n' l' m' F', false), (decide (m ≤ m) && (decide (l ≤ (100000 : Nat)) && decide (m ≤ (100000 : Nat))), true), (rightV (3 : Int) n l m F == rightV (3 : Int) n (bytesOf B [] (0 : Nat) l).length m F, true), (decide (m ≤ m) && (decide (l ≤ l) && (decide (l ≤ (100000 : Nat)) && (decide (m ≤ (1000 : Nat)) && (bndB B l && (rangeI F m && (pwOK P && inN n)))))), true), (lineV (3 : Int) n l m B F == lineR { K := (3 : Int), N := n, B := bytesOf B [] (0 : Nat) l, M := intsF F m }, true), (decide (l ≤ l) && (decide (m ≤ m) && (decide (l' ≤ l') && (decide (m' ≤ m') && decide (m ≤ (100000 : Nat))))), true), (decide (m ≤ m) && (decide (m' ≤ m') && decide (m ≤ (100000 : Nat))), true), (sameV (3 : Int) n (3 : Int) n' l m l' m' B B' F F' == sameT (3 : Int) n (3 : Int) n' (bytesOf B [] (0 : Nat) l) (bytesOf B' [] (0 : Nat) l') m m' F F', true)] ∧ true = allEq (upd (upd (upd (fun x => (0 : Int)) [(0 : Nat)] (IntKind.i64.wrap (IntKind.i64.wrap ((0 : Int) + (↑l : Int)) + (↑l' : Int)))) [(1 : Nat)] (0 : Int)) [(2 : Nat)] (IntKind.i64.wrap (IntKind.i64.wrap ((0 : Int) + n) + n'))) (fun js => upd (upd (upd (upd (fun x => (0 : Int)) [(0 : Nat)] (IntKind.i64.wrap ((0 : Int) + (↑(bytesOf B [] (0 : Nat) l).length : Int)))) [(2 : Nat)] (IntKind.i64.wrap (upd (fun x => (0 : Int)) [(0 : Nat)] (IntKind.i64.wrap ((0 : Int) + (↑(bytesOf B [] (0 : Nat) l).length : Int))) [(2 : Nat)] + n))) [(0 : Nat)] (IntKind.i64.wrap (upd (upd (fun x => (0 : Int)) [(0 : Nat)] (IntKind.i64.wrap ((0 : Int) + (↑(bytesOf B [] (0 : Nat) l).length : Int)))) [(2 : Nat)] (IntKind.i64.wrap (upd (fun x => (0 : Int)) [(0 : Nat)] (IntKind.i64.wrap ((0 : Int) + (↑(bytesOf B [] (0 : Nat) l).length : Int))) [(2 : Nat)] + n)) [(0 : Nat)] + (↑(bytesOf B' [] (0 : Nat) l').length : Int)))) [(2 : Nat)] (IntKind.i64.wrap (upd (upd (upd (fun x => (0 : Int)) [(0 : Nat)] (IntKind.i64.wrap ((0 : Int) + (↑(bytesOf B [] (0 : Nat) l).length : Int)))) [(2 : Nat)] (IntKind.i64.wrap (upd (fun x => (0 : Int)) [(0 : Nat)] (IntKind.i64.wrap ((0 : Int) + (↑(bytesOf B [] (0 : Nat) l).length : Int))) [(2 : Nat)] + n))) [(0 : Nat)] (IntKind.i64.wrap (upd (upd (fun x => (0 : Int)) [(0 : Nat)] (IntKind.i64.wrap ((0 : Int) + (↑(bytesOf B [] (0 : Nat) l).length : Int)))) [(2 : Nat)] (IntKind.i64.wrap (upd (fun x => (0 : Int)) [(0 : Nat)] (IntKind.i64.wrap ((0 : Int) + (↑(bytesOf B [] (0 : Nat) l).length : Int))) [(2 : Nat)] + n)) [(0 : Nat)] + (↑(bytesOf B' [] (0 : Nat) l').length : Int))) [(2 : Nat)] + n')) js) (3 : Nat) ∧ True) := by kernel_rfl

set_option maxHeartbeats 4000000 in
theorem el_3_3 (t0 t1 t2 : List UInt8) (P : Ix → Int) (n : Int) (l m : Nat) (B F : Ix → Int) (n' : Int) (l' m' : Nat) (B' F' : Ix → Int) (hP : pwOK P = true) (hB : bndB B l = true) (hF : rangeI F m = true) (hn : inN n = true) (hB' : bndB B' l' = true) (hF' : rangeI F' m' = true) (hn' : inN n' = true) (h1 : l ≤ 1100) (h2 : m ≤ 200) (h3 : l' ≤ 1100) (h4 : m' ≤ 200) (hr : rightV 3 n l m F = true) (hr' : rightV 3 n' l' m' F' = true)  :
    RunsTo Tryd.prog 7 [.code (bodyOf Tryd.f7)] (envOf [.agg (.tc (.vi .i64 fun _ => 3) (.tc (.vi .i64 fun _ => n) (.tc (.vl 100 (fun _ => 0) 1 [] (fun _ => l)) (.tc (.vl 101 (fun _ => 0) 1 [] (fun _ => m)) .t0)))), .agg (.tc (.vi .i64 fun _ => 3) (.tc (.vi .i64 fun _ => n') (.tc (.vl 102 (fun _ => 0) 1 [] (fun _ => l')) (.tc (.vl 103 (fun _ => 0) 1 [] (fun _ => m')) .t0))))] Tryd.f7.ntmps) (Sx.look ((rbS t0 t1 t2 ++ (pwF P ++ (([⟨100, false, none, 1, .ta l (.vi .u8 B)⟩] ++ [⟨101, false, none, 1, .ta m (.vi .i64 F)⟩]) ++ ([⟨102, false, none, 1, .ta l' (.vi .u8 B')⟩] ++ [⟨103, false, none, 1, .ta m' (.vi .i64 F')⟩])))) ++ ([]))) 110 (YES) (Sx.look ([])) 6000 := by
  have hl := lineV_T (B := B) hr
  have hR := rightR_T (B := B) hr
  refine runs_last baseEL (Sx.Ends.of (el_3_3_p0 t0 t1 t2 P n l m B F n' l' m' B' F') ⟨?oo, ?rr⟩) (by kernel_rfl) rfl (gtL (by decide)) (by decide)
  case oo =>
    refine (okc ?_ (okc ?_ (okc ?_ (okc ?_ (okc ?_ (okc ?_ (okc ?_ (okc ?_ (okc ?_ (okc ?_ (okc ?_ (okc ?_ (okc ?_ (okc ?_ (okc ?_ (okc ?_ (okc ?_ (okc ?_ (okc ?_ (okc ?_ (okc ?_ (okc ?_ (okc ?_ (okc ?_ (okc ?_ okn)))))))))))))))))))))))))
    all_goals ((try simp only [by_len, rightV_B, Go.Sx.sum, hr, hr', hl, sameV_T]); first | done | rfl | omega | assumption | exact hP | exact ⟨Nat.le_refl _, by omega, by omega⟩ | exact ⟨Nat.le_refl _, Nat.le_refl _, by omega, by omega, hB, hF, hP, hn⟩ | exact ⟨Nat.le_refl _, Nat.le_refl _, Nat.le_refl _, Nat.le_refl _, by omega⟩ | exact ⟨Nat.le_refl _, Nat.le_refl _, by omega⟩ | exact ⟨Nat.le_refl _, by omega, hR⟩ | (simp (disch := omega) only [SS, by_len, rightV_B, Go.Sx.sum, hr, hr', hl, sameV_T]; first | done | omega | assumption | exact hP | exact ⟨Nat.le_refl _, by omega, by omega⟩ | exact ⟨Nat.le_refl _, Nat.le_refl _, by omega, by omega, hB, hF, hP, hn⟩ | exact ⟨Nat.le_refl _, Nat.le_refl _, Nat.le_refl _, Nat.le_refl _, by omega⟩ | exact ⟨Nat.le_refl _, Nat.le_refl _, by omega⟩ | exact ⟨Nat.le_refl _, by omega, hR⟩) | (simp_all; done) | (simp_all; omega))
  case rr =>
    refine ⟨?_, trivial⟩
    (try simp only [by_len, rightV_B, Go.Sx.sum, hr, hr', hl, sameV_T])
    first | done | rfl | (simp [allEq, List.range, List.range.loop, upd]; done) | simp_all [allEq, List.range, List.range.loop, upd]

theorem el_3_o_p0 (t0 t1 t2 : List UInt8) (P : Ix → Int) (n : Int) (l m : Nat) (B F : Ix → Int) (k' n' : Int) (l' m' : Nat) (B' F' : Ix → Int) :
    isEnd (evTill Tryd.prog sumsEL 800 (99) 900 7 [.code (bodyOf Tryd.f7)] (envOf [.agg (.tc (.vi .i64 fun _ => 3) (.tc (.vi .i64 fun _ => n) (.tc (.vl 100 (fun _ => 0) 1 [] (fun _ => l)) (.tc (.vl 101 (fun _ => 0) 1 [] (fun _ => m)) .t0)))), .agg (.tc (.vi .i64 fun _ => k') (.tc (.vi .i64 fun _ => n') (.tc (.vl 102 (fun _ => 0) 1 [] (fun _ => l')) (.tc (.vl 103 (fun _ => 0) 1 [] (fun _ => m')) .t0))))] Tryd.f7.ntmps) ((rbS t0 t1 t2 ++ (pwF P ++ (([⟨100, false, none, 1, .ta l (.vi .u8 B)⟩] ++ [⟨101, false, none, 1, .ta m (.vi .i64 F)⟩]) ++ ([⟨102, false, none, 1, .ta l' (.vi .u8 B')⟩] ++ [⟨103, false, none, 1, .ta m' (.vi .i64 F')⟩])))) ++ ([])) ⟨[.s true, .f, .s false, .s false, .s false, .s false, .s true, .s true, .s true, .t, .t, .t, .s true, .s true, .t, .t, .t, .t, .f, .t, .t, .t, .t, .t, .t, .t, .t, .s true, .s true, .t, .t, .t, .t, .s false, .s false, .f, .s true, .s true, .t, .t, .t, .s true, .s false, .f, .t, .t, .t, .t, .s true, .s false, .s false, .s false, .f, .s true, .s true, .s true, .s true, .s true, .s true, .s true], 110⟩) (endP ([]) (YES) ([]) 6000) =
    (OkL [(pwOK P, true), (decide ((↑l : Int) > (1100 : Int)), false), (decide ((↑m : Int) > (200 : Int)), false), (decide ((↑l' : Int) > (1100 : Int)), false), (decide ((↑m' : Int) > (200 : Int)), false), (((0 : Nat) + l).ble l, true), (((0 : Nat) + l').ble l', true), (decide (m ≤ m) && (decide (m ≤ (100000 : Nat)) && decide ((bytesOf B [] (0 : Nat) l).length ≤ (100000 : Nat))), true), (decide (m ≤ m) && (decide (m ≤ (100000 : Nat)) && decide ((bytesOf B [] (0 : Nat) l).length ≤ (100000 : Nat))), true), (rightV (3 : Int) n (bytesOf B [] (0 : Nat) l).length m F, true), (decide (m' ≤ m') && (decide (m' ≤ (100000 : Nat)) && decide ((bytesOf B' [] (0 : Nat) l').length ≤ (100000 : Nat))), true), (rightV k' n' (bytesOf B' [] (0 : Nat) l').length m' F', true), (k' == (2 : Int), false), (k' == (3 : Int), false), (rightV (3 : Int) n (bytesOf B [] (0 : Nat) l).length m F, true), (decide (m ≤ m) && (decide (m ≤ (1100 : Nat)) && rightR { K := (3 : Int), N := n, B := bytesOf B [] (0 : Nat) l, M := intsF F m }), true), (decide (m ≤ m) && (decide (l ≤ (100000 : Nat)) && decide (m ≤ (100000 : Nat))), true), (!rightV (3 : Int) n l m F, false), (decide (m' ≤ m') && (decide (l' ≤ (100000 : Nat)) && decide (m' ≤ (100000 : Nat))), true), (!rightV k' n' l' m' F', false), (k' == (2 : Int), false), (k' == (3 : Int), false), (decide (m ≤ m) && (decide (l ≤ (100000 : Nat)) && decide (m ≤ (100000 : Nat))), true), (rightV (3 : Int) n l m F == rightV (3 : Int) n (bytesOf B [] (0 : Nat) l).length m F, true), (decide (m ≤ m) && (decide (l ≤ l) && (decide (l ≤ (100000 : Nat)) && (decide (m ≤ (1000 : Nat)) && (bndB B l && (rangeI F m && (pwOK P && inN n)))))), true), (lineV (3 : Int) n l m B F == lineR { K := (3 : Int), N := n, B := bytesOf B [] (0 : Nat) l, M := intsF F m }, true), (decide (l ≤ l) && (decide (m ≤ m) && (decide (l' ≤ l') && (decide (m' ≤ m') && decide (m ≤ (100000 : Nat))))), true), (decide (m ≤ m) && (decide (m' ≤ m') && decide (m ≤ (100000 : Nat))), true), (sameV (3 : Int) n k' n' l m l' m' B B' F F' == sameT (3 : Int) n k' n' (bytesOf B [] (0 : Nat) l) (bytesOf B' [] (0 : Nat) l') m m' F F', true)] ∧ true = allEq (upd (upd (upd (fun x => (0 : Int)) [(0 : Nat)] (IntKind.i64.wrap (IntKind.i64.wrap ((0 : Int) + (↑l : Int)) + (↑l' : Int)))) [(1 : Nat)] (0 : Int)) [(2 : Nat)] (IntKind.i64.wrap ((0 : Int) + n))) (fun js => upd (upd (upd (fun x => (0 : Int)) [(0 : Nat)] (IntKind.i64.wrap ((0 : Int) + (↑(bytesOf B [] (0 : Nat) l).length : Int)))) [(2 : Nat)] (IntKind.i64.wrap (upd (fun x => (0 : Int)) [(0 : Nat)] (IntKind.i64.wrap ((0 : Int) + (↑(bytesOf B [] (0 : Nat) l).length : Int))) [(2 : Nat)] + n))) [(0 : Nat)] (IntKind.i64.wrap (upd (upd (fun x => (0 : Int)) [(0 : Nat)] (IntKind.i64.wrap ((0 : Int) + (↑(bytesOf B [] (0 : Nat) l).length : Int)))) [(2 : Nat)] (IntKind.i64.wrap (upd (fun x => (0 : Int)) [(0 : Nat)] (IntKind.i64.wrap ((0 : Int) + (↑(bytesOf B [] (0 : Nat) l).length : Int))) [(2 : Nat)] + n)) [(0 : Nat)] + (↑(bytesOf B' [] (0 : Nat) l').length : Int))) js) (3 : Nat) ∧ True) := by kernel_rfl

set_option maxHeartbeats 4000000 in
theorem el_3_o (t0 t1 t2 : List UInt8) (P : Ix → Int) (n : Int) (l m : Nat) (B F : Ix → Int) (k' n' : Int) (l' m' : Nat) (B' F' : Ix → Int) (hP : pwOK P = true) (hB : bndB B l = true) (hF : rangeI F m = true) (hn : inN n = true) (hB' : bndB B' l' = true) (hF' : rangeI F' m' = true) (hn' : inN n' = true) (h1 : l ≤ 1100) (h2 : m ≤ 200) (h3 : l' ≤ 1100) (h4 : m' ≤ 200) (hr : rightV 3 n l m F = true) (hr' : rightV k' n' l' m' F' = true) (hx' : k' ≠ 2) (hy' : k' ≠ 3)  :
    RunsTo Tryd.prog 7 [.code (bodyOf Tryd.f7)] (envOf [.agg (.tc (.vi .i64 fun _ => 3) (.tc (.vi .i64 fun _ => n) (.tc (.vl 100 (fun _ => 0) 1 [] (fun _ => l)) (.tc (.vl 101 (fun _ => 0) 1 [] (fun _ => m)) .t0)))), .agg (.tc (.vi .i64 fun _ => k') (.tc (.vi .i64 fun _ => n') (.tc (.vl 102 (fun _ => 0) 1 [] (fun _ => l')) (.tc (.vl 103 (fun _ => 0) 1 [] (fun _ => m')) .t0))))] Tryd.f7.ntmps) (Sx.look ((rbS t0 t1 t2 ++ (pwF P ++ (([⟨100, false, none, 1, .ta l (.vi .u8 B)⟩] ++ [⟨101, false, none, 1, .ta m (.vi .i64 F)⟩]) ++ ([⟨102, false, none, 1, .ta l' (.vi .u8 B')⟩] ++ [⟨103, false, none, 1, .ta m' (.vi .i64 F')⟩])))) ++ ([]))) 110 (YES) (Sx.look ([])) 6000 := by
  have hl := lineV_T (B := B) hr
  have hR := rightR_T (B := B) hr
  refine runs_last baseEL (Sx.Ends.of (el_3_o_p0 t0 t1 t2 P n l m B F k' n' l' m' B' F') ⟨?oo, ?rr⟩) (by kernel_rfl) rfl (gtL (by decide)) (by decide)
  case oo =>
    refine (okc ?_ (okc ?_ (okc ?_ (okc ?_ (okc ?_ (okc ?_ (okc ?_ (okc ?_ (okc ?_ (okc ?_ (okc ?_ (okc ?_ (okc ?_ (okc ?_ (okc ?_ (okc ?_ (okc ?_ (okc ?_ (okc ?_ (okc ?_ (okc ?_ (okc ?_ (okc ?_ (okc ?_ (okc ?_ (okc ?_ (okc ?_ (okc ?_ (okc ?_ okn)))))))))))))))))))))))))))))
    all_goals ((try simp only [by_len, rightV_B, Go.Sx.sum, hr, hr', hl, sameV_T]); first | done | rfl | omega | assumption | exact hP | exact ⟨Nat.le_refl _, by omega, by omega⟩ | exact ⟨Nat.le_refl _, Nat.le_refl _, by omega, by omega, hB, hF, hP, hn⟩ | exact ⟨Nat.le_refl _, Nat.le_refl _, Nat.le_refl _, Nat.le_refl _, by omega⟩ | exact ⟨Nat.le_refl _, Nat.le_refl _, by omega⟩ | exact ⟨Nat.le_refl _, by omega, hR⟩ | (simp (disch := omega) only [SS, by_len, rightV_B, Go.Sx.sum, hr, hr', hl, sameV_T]; first | done | omega | assumption | exact hP | exact ⟨Nat.le_refl _, by omega, by omega⟩ | exact ⟨Nat.le_refl _, Nat.le_refl _, by omega, by omega, hB, hF, hP, hn⟩ | exact ⟨Nat.le_refl _, Nat.le_refl _, Nat.le_refl _, Nat.le_refl _, by omega⟩ | exact ⟨Nat.le_refl _, Nat.le_refl _, by omega⟩ | exact ⟨Nat.le_refl _, by omega, hR⟩) | (simp_all; done) | (simp_all; omega))
  case rr =>
    refine ⟨?_, trivial⟩
    (try simp only [by_len, rightV_B, Go.Sx.sum, hr, hr', hl, sameV_T])
    first | done | rfl | (simp [allEq, List.range, List.range.loop, upd]; done) | simp_all [allEq, List.range, List.range.loop, upd]

theorem el_o_bad_p0 (t0 t1 t2 : List UInt8) (P : Ix → Int) (k n : Int) (l m : Nat) (B F : Ix → Int) (k' n' : Int) (l' m' : Nat) (B' F' : Ix → Int) :
    isEnd (evTill Tryd.prog sumsEL 800 (99) 900 7 [.code (bodyOf Tryd.f7)] (envOf [.agg (.tc (.vi .i64 fun _ => k) (.tc (.vi .i64 fun _ => n) (.tc (.vl 100 (fun _ => 0) 1 [] (fun _ => l)) (.tc (.vl 101 (fun _ => 0) 1 [] (fun _ => m)) .t0)))), .agg (.tc (.vi .i64 fun _ => k') (.tc (.vi .i64 fun _ => n') (.tc (.vl 102 (fun _ => 0) 1 [] (fun _ => l')) (.tc (.vl 103 (fun _ => 0) 1 [] (fun _ => m')) .t0))))] Tryd.f7.ntmps) ((rbS t0 t1 t2 ++ (pwF P ++ (([⟨100, false, none, 1, .ta l (.vi .u8 B)⟩] ++ [⟨101, false, none, 1, .ta m (.vi .i64 F)⟩]) ++ ([⟨102, false, none, 1, .ta l' (.vi .u8 B')⟩] ++ [⟨103, false, none, 1, .ta m' (.vi .i64 F')⟩])))) ++ ([])) ⟨[.s true, .f, .s false, .s false, .s false, .s false, .s true, .s true, .s true, .t, .t, .t, .s true, .s true, .t, .t, .t, .t, .s false, .s false, .t, .t, .t, .s true, .s false, .f, .s true, .s true, .t, .t, .t, .s true, .s false, .s false, .s false, .t, .t, .t, .s true, .s true, .f, .s true, .s true, .s true, .s true, .s true, .s true, .s true], 110⟩) (endP ([]) (YES) ([]) 6000) =
    (OkL [(pwOK P, true), (decide ((↑l : Int) > (1100 : Int)), false), (decide ((↑m : Int) > (200 : Int)), false), (decide ((↑l' : Int) > (1100 : Int)), false), (decide ((↑m' : Int) > (200 : Int)), false), (((0 : Nat) + l).ble l, true), (((0 : Nat) + l').ble l', true), (decide (m ≤ m) && (decide (m ≤ (100000 : Nat)) && decide ((bytesOf B [] (0 : Nat) l).length ≤ (100000 : Nat))), true), (decide (m ≤ m) && (decide (m ≤ (100000 : Nat)) && decide ((bytesOf B [] (0 : Nat) l).length ≤ (100000 : Nat))), true), (rightV k n (bytesOf B [] (0 : Nat) l).length m F, true), (k == (2 : Int), false), (k == (3 : Int), false), (decide (m' ≤ m') && (decide (m' ≤ (100000 : Nat)) && decide ((bytesOf B' [] (0 : Nat) l').length ≤ (100000 : Nat))), true), (rightV k' n' (bytesOf B' [] (0 : Nat) l').length m' F', false), (rightV k n (bytesOf B [] (0 : Nat) l).length m F, true), (decide (m ≤ m) && (decide (m ≤ (1100 : Nat)) && rightR { K := k, N := n, B := bytesOf B [] (0 : Nat) l, M := intsF F m }), true), (decide (m ≤ m) && (decide (l ≤ (100000 : Nat)) && decide (m ≤ (100000 : Nat))), true), (!rightV k n l m F, false), (k == (2 : Int), false), (k == (3 : Int), false), (decide (m' ≤ m') && (decide (l' ≤ (100000 : Nat)) && decide (m' ≤ (100000 : Nat))), true), (!rightV k' n' l' m' F', true), (decide (m ≤ m) && (decide (l ≤ (100000 : Nat)) && decide (m ≤ (100000 : Nat))), true), (rightV k n l m F == rightV k n (bytesOf B [] (0 : Nat) l).length m F, true), (decide (m ≤ m) && (decide (l ≤ l) && (decide (l ≤ (100000 : Nat)) && (decide (m ≤ (1000 : Nat)) && (bndB B l && (rangeI F m && (pwOK P && inN n)))))), true), (lineV k n l m B F == lineR { K := k, N := n, B := bytesOf B [] (0 : Nat) l, M := intsF F m }, true), (decide (l ≤ l) && (decide (m ≤ m) && (decide (l' ≤ l') && (decide (m' ≤ m') && decide (m ≤ (100000 : Nat))))), true), (decide (m ≤ m) && (decide (m' ≤ m') && decide (m ≤ (100000 : Nat))), true), (sameV k n k' n' l m l' m' B B' F F' == sameT k n k' n' (bytesOf B [] (0 : Nat) l) (bytesOf B' [] (0 : Nat) l') m m' F F', true)] ∧ true = allEq (upd (upd (upd (fun x => (0 : Int)) [(0 : Nat)] (IntKind.i64.wrap ((0 : Int) + (↑l : Int)))) [(1 : Nat)] (0 : Int)) [(2 : Nat)] (0 : Int)) (fun js => upd (fun x => (0 : Int)) [(0 : Nat)] (IntKind.i64.wrap ((0 : Int) + (↑(bytesOf B [] (0 : Nat) l).length : Int))) js) (3 : Nat) ∧ True) := by kernel_rfl

set_option maxHeartbeats 4000000 in
theorem el_o_bad (t0 t1 t2 : List UInt8) (P : Ix → Int) (k n : Int) (l m : Nat) (B F : Ix → Int) (k' n' : Int) (l' m' : Nat) (B' F' : Ix → Int) (hP : pwOK P = true) (hB : bndB B l = true) (hF : rangeI F m = true) (hn : inN n = true) (hB' : bndB B' l' = true) (hF' : rangeI F' m' = true) (hn' : inN n' = true) (h1 : l ≤ 1100) (h2 : m ≤ 200) (h3 : l' ≤ 1100) (h4 : m' ≤ 200) (hr : rightV k n l m F = true) (hx : k ≠ 2) (hy : k ≠ 3) (hr' : rightV k' n' l' m' F' = false)  :
    RunsTo Tryd.prog 7 [.code (bodyOf Tryd.f7)] (envOf [.agg (.tc (.vi .i64 fun _ => k) (.tc (.vi .i64 fun _ => n) (.tc (.vl 100 (fun _ => 0) 1 [] (fun _ => l)) (.tc (.vl 101 (fun _ => 0) 1 [] (fun _ => m)) .t0)))), .agg (.tc (.vi .i64 fun _ => k') (.tc (.vi .i64 fun _ => n') (.tc (.vl 102 (fun _ => 0) 1 [] (fun _ => l')) (.tc (.vl 103 (fun _ => 0) 1 [] (fun _ => m')) .t0))))] Tryd.f7.ntmps) (Sx.look ((rbS t0 t1 t2 ++ (pwF P ++ (([⟨100, false, none, 1, .ta l (.vi .u8 B)⟩] ++ [⟨101, false, none, 1, .ta m (.vi .i64 F)⟩]) ++ ([⟨102, false, none, 1, .ta l' (.vi .u8 B')⟩] ++ [⟨103, false, none, 1, .ta m' (.vi .i64 F')⟩])))) ++ ([]))) 110 (YES) (Sx.look ([])) 6000 := by
  have hl := lineV_T (B := B) hr
  have hR := rightR_T (B := B) hr
  refine runs_last baseEL (Sx.Ends.of (el_o_bad_p0 t0 t1 t2 P k n l m B F k' n' l' m' B' F') ⟨?oo, ?rr⟩) (by kernel_rfl) rfl (gtL (by decide)) (by decide)
  case oo =>
    refine (okc ?_ (okc ?_ (okc ?_ (okc ?_ (okc ?_ (okc ?_ (okc ?_ (okc ?_ (okc ?_ (okc ?_ (okc ?_ (okc ?_ (okc ?_ (okc ?_ (okc ?_ (okc ?_ (okc ?_ (okc ?_ (okc ?_ (okc ?_ (okc ?_ (okc ?_ (okc ?_ (okc ?_ (okc ?_ (okc ?_ (okc ?_ (okc ?_ (okc ?_ okn)))))))))))))))))))))))))))))
    all_goals ((try simp only [by_len, rightV_B, Go.Sx.sum, hr, hr', hl, sameV_T]); first | done | rfl | omega | assumption | exact hP | exact ⟨Nat.le_refl _, by omega, by omega⟩ | exact ⟨Nat.le_refl _, Nat.le_refl _, by omega, by omega, hB, hF, hP, hn⟩ | exact ⟨Nat.le_refl _, Nat.le_refl _, Nat.le_refl _, Nat.le_refl _, by omega⟩ | exact ⟨Nat.le_refl _, Nat.le_refl _, by omega⟩ | exact ⟨Nat.le_refl _, by omega, hR⟩ | (simp (disch := omega) only [SS, by_len, rightV_B, Go.Sx.sum, hr, hr', hl, sameV_T]; first | done | omega | assumption | exact hP | exact ⟨Nat.le_refl _, by omega, by omega⟩ | exact ⟨Nat.le_refl _, Nat.le_refl _, by omega, by omega, hB, hF, hP, hn⟩ | exact ⟨Nat.le_refl _, Nat.le_refl _, Nat.le_refl _, Nat.le_refl _, by omega⟩ | exact ⟨Nat.le_refl _, Nat.le_refl _, by omega⟩ | exact ⟨Nat.le_refl _, by omega, hR⟩) | (simp_all; done) | (simp_all; omega))
  case rr =>
    refine ⟨?_, trivial⟩
    (try simp only [by_len, rightV_B, Go.Sx.sum, hr, hr', hl, sameV_T])
    first | done | rfl | (simp [allEq, List.range, List.range.loop, upd]; done) | simp_all [allEq, List.range, List.range.loop, upd]

theorem el_o_2_p0 (t0 t1 t2 : List UInt8) (P : Ix → Int) (k n : Int) (l m : Nat) (B F : Ix → Int) (n' : Int) (l' m' : Nat) (B' F' : Ix → Int) :
    isEnd (evTill Tryd.prog sumsEL 800 (99) 900 7 [.code (bodyOf Tryd.f7)] (envOf [.agg (.tc (.vi .i64 fun _ => k) (.tc (.vi .i64 fun _ => n) (.tc (.vl 100 (fun _ => 0) 1 [] (fun _ => l)) (.tc (.vl 101 (fun _ => 0) 1 [] (fun _ => m)) .t0)))), .agg (.tc (.vi .i64 fun _ => 2) (.tc (.vi .i64 fun _ => n') (.tc (.vl 102 (fun _ => 0) 1 [] (fun _ => l')) (.tc (.vl 103 (fun _ => 0) 1 [] (fun _ => m')) .t0))))] Tryd.f7.ntmps) ((rbS t0 t1 t2 ++ (pwF P ++ (([⟨100, false, none, 1, .ta l (.vi .u8 B)⟩] ++ [⟨101, false, none, 1, .ta m (.vi .i64 F)⟩]) ++ ([⟨102, false, none, 1, .ta l' (.vi .u8 B')⟩] ++ [⟨103, false, none, 1, .ta m' (.vi .i64 F')⟩])))) ++ ([])) ⟨[.s true, .f, .s false, .s false, .s false, .s false, .s true, .s true, .s true, .t, .t, .t, .s true, .s true, .t, .t, .t, .t, .s false, .s false, .t, .t, .t, .s true, .s true, .t, .t, .t, .t, .t, .t, .t, .t, .t, .f, .s true, .s true, .t, .t, .t, .s true, .s false, .s false, .s false, .t, .t, .t, .s true, .s false, .t, .f, .s true, .s true, .s true, .s true, .s true, .s true, .s true], 110⟩) (endP ([]) (YES) ([]) 6000) =
    (OkL [(pwOK P, true), (decide ((↑l : Int) > (1100 : Int)), false), (decide ((↑m : Int) > (200 : Int)), false), (decide ((↑l' : Int) > (1100 : Int)), false), (decide ((↑m' : Int) > (200 : Int)), false), (((0 : Nat) + l).ble l, true), (((0 : Nat) + l').ble l', true), (decide (m ≤ m) && (decide (m ≤ (100000 : Nat)) && decide ((bytesOf B [] (0 : Nat) l).length ≤ (100000 : Nat))), true), (decide (m ≤ m) && (decide (m ≤ (100000 : Nat)) && decide ((bytesOf B [] (0 : Nat) l).length ≤ (100000 : Nat))), true), (rightV k n (bytesOf B [] (0 : Nat) l).length m F, true), (k == (2 : Int), false), (k == (3 : Int), false), (decide (m' ≤ m') && (decide (m' ≤ (100000 : Nat)) && decide ((bytesOf B' [] (0 : Nat) l').length ≤ (100000 : Nat))), true), (rightV (2 : Int) n' (bytesOf B' [] (0 : Nat) l').length m' F', true), (rightV k n (bytesOf B [] (0 : Nat) l).length m F, true), (decide (m ≤ m) && (decide (m ≤ (1100 : Nat)) && rightR { K := k, N := n, B := bytesOf B [] (0 : Nat) l, M := intsF F m }), true), (decide (m ≤ m) && (decide (l ≤ (100000 : Nat)) && decide (m ≤ (100000 : Nat))), true), (!rightV k n l m F, false), (k == (2 : Int), false), (k == (3 : Int), false), (decide (m' ≤ m') && (decide (l' ≤ (100000 : Nat)) && decide (m' ≤ (100000 : Nat))), true), (!rightV (2 : Int) n' l' m' F', false), (decide (m ≤ m) && (decide (l ≤ (100000 : Nat)) && decide (m ≤ (100000 : Nat))), true), (rightV k n l m F == rightV k n (bytesOf B [] (0 : Nat) l).length m F, true), (decide (m ≤ m) && (decide (l ≤ l) && (decide (l ≤ (100000 : Nat)) && (decide (m ≤ (1000 : Nat)) && (bndB B l && (rangeI F m && (pwOK P && inN n)))))), true), (lineV k n l m B F == lineR { K := k, N := n, B := bytesOf B [] (0 : Nat) l, M := intsF F m }, true), (decide (l ≤ l) && (decide (m ≤ m) && (decide (l' ≤ l') && (decide (m' ≤ m') && decide (m ≤ (100000 : Nat))))), true), (decide (m ≤ m) && (decide (m' ≤ m') && decide (m ≤ (100000 : Nat))), true), (sameV k n (2 : Int) n' l m l' m' B B' F F' == sameT k n (2 : Int) n' (bytesOf B [] (0 : Nat) l) (bytesOf B' [] (0 : Nat) l') m m' F F', true)] ∧ true = allEq (upd (upd (upd (fun x => (0 : Int)) [(0 : Nat)] (IntKind.i64.wrap (IntKind.i64.wrap ((0 : Int) + (↑l : Int)) + (↑l' : Int)))) [(1 : Nat)] (IntKind.i64.wrap ((0 : Int) + n'))) [(2 : Nat)] (0 : Int)) (fun js => upd (upd (upd (fun x => (0 : Int)) [(0 : Nat)] (IntKind.i64.wrap ((0 : Int) + (↑(bytesOf B [] (0 : Nat) l).length : Int)))) [(0 : Nat)] (IntKind.i64.wrap (upd (fun x => (0 : Int)) [(0 : Nat)] (IntKind.i64.wrap ((0 : Int) + (↑(bytesOf B [] (0 : Nat) l).length : Int))) [(0 : Nat)] + (↑(bytesOf B' [] (0 : Nat) l').length : Int)))) [(1 : Nat)] (IntKind.i64.wrap (upd (upd (fun x => (0 : Int)) [(0 : Nat)] (IntKind.i64.wrap ((0 : Int) + (↑(bytesOf B [] (0 : Nat) l).length : Int)))) [(0 : Nat)] (IntKind.i64.wrap (upd (fun x => (0 : Int)) [(0 : Nat)] (IntKind.i64.wrap ((0 : Int) + (↑(bytesOf B [] (0 : Nat) l).length : Int))) [(0 : Nat)] + (↑(bytesOf B' [] (0 : Nat) l').length : Int))) [(1 : Nat)] + n')) js) (3 : Nat) ∧ True) := by kernel_rfl

set_option maxHeartbeats 4000000 in
theorem el_o_2 (t0 t1 t2 : List UInt8) (P : Ix → Int) (k n : Int) (l m : Nat) (B F : Ix → Int) (n' : Int) (l' m' : Nat) (B' F' : Ix → Int) (hP : pwOK P = true) (hB : bndB B l = true) (hF : rangeI F m = true) (hn : inN n = true) (hB' : bndB B' l' = true) (hF' : rangeI F' m' = true) (hn' : inN n' = true) (h1 : l ≤ 1100) (h2 : m ≤ 200) (h3 : l' ≤ 1100) (h4 : m' ≤ 200) (hr : rightV k n l m F = true) (hx : k ≠ 2) (hy : k ≠ 3) (hr' : rightV 2 n' l' m' F' = true)  :
    RunsTo Tryd.prog 7 [.code (bodyOf Tryd.f7)] (envOf [.agg (.tc (.vi .i64 fun _ => k) (.tc (.vi .i64 fun _ => n) (.tc (.vl 100 (fun _ => 0) 1 [] (fun _ => l)) (.tc (.vl 101 (fun _ => 0) 1 [] (fun _ => m)) .t0)))), .agg (.tc (.vi .i64 fun _ => 2) (.tc (.vi .i64 fun _ => n') (.tc (.vl 102 (fun _ => 0) 1 [] (fun _ => l')) (.tc (.vl 103 (fun _ => 0) 1 [] (fun _ => m')) .t0))))] Tryd.f7.ntmps) (Sx.look ((rbS t0 t1 t2 ++ (pwF P ++ (([⟨100, false, none, 1, .ta l (.vi .u8 B)⟩] ++ [⟨101, false, none, 1, .ta m (.vi .i64 F)⟩]) ++ ([⟨102, false, none, 1, .ta l' (.vi .u8 B')⟩] ++ [⟨103, false, none, 1, .ta m' (.vi .i64 F')⟩])))) ++ ([]))) 110 (YES) (Sx.look ([])) 6000 := by
  have hl := lineV_T (B := B) hr
  have hR := rightR_T (B := B) hr
  refine runs_last baseEL (Sx.Ends.of (el_o_2_p0 t0 t1 t2 P k n l m B F n' l' m' B' F') ⟨?oo, ?rr⟩) (by kernel_rfl) rfl (gtL (by decide)) (by decide)
  case oo =>
    refine (okc ?_ (okc ?_ (okc ?_ (okc ?_ (okc ?_ (okc ?_ (okc ?_ (okc ?_ (okc ?_ (okc ?_ (okc ?_ (okc ?_ (okc ?_ (okc ?_ (okc ?_ (okc ?_ (okc ?_ (okc ?_ (okc ?_ (okc ?_ (okc ?_ (okc ?_ (okc ?_ (okc ?_ (okc ?_ (okc ?_ (okc ?_ (okc ?_ (okc ?_ okn)))))))))))))))))))))))))))))
    all_goals ((try simp only [by_len, rightV_B, Go.Sx.sum, hr, hr', hl, sameV_T]); first | done | rfl | omega | assumption | exact hP | exact ⟨Nat.le_refl _, by omega, by omega⟩ | exact ⟨Nat.le_refl _, Nat.le_refl _, by omega, by omega, hB, hF, hP, hn⟩ | exact ⟨Nat.le_refl _, Nat.le_refl _, Nat.le_refl _, Nat.le_refl _, by omega⟩ | exact ⟨Nat.le_refl _, Nat.le_refl _, by omega⟩ | exact ⟨Nat.le_refl _, by omega, hR⟩ | (simp (disch := omega) only [SS, by_len, rightV_B, Go.Sx.sum, hr, hr', hl, sameV_T]; first | done | omega | assumption | exact hP | exact ⟨Nat.le_refl _, by omega, by omega⟩ | exact ⟨Nat.le_refl _, Nat.le_refl _, by omega, by omega, hB, hF, hP, hn⟩ | exact ⟨Nat.le_refl _, Nat.le_refl _, Nat.le_refl _, Nat.le_refl _, by omega⟩ | exact ⟨Nat.le_refl _, Nat.le_refl _, by omega⟩ | exact ⟨Nat.le_refl _, by omega, hR⟩) | (simp_all; done) | (simp_all; omega))
  case rr =>
    refine ⟨?_, trivial⟩
    (try simp only [by_len, rightV_B, Go.Sx.sum, hr, hr', hl, sameV_T])
    first | done | rfl | (simp [allEq, List.range, List.range.loop, upd]; done) | simp_all [allEq, List.range, List.range.loop, upd]

theorem el_o_3_p0 (t0 t1 t2 : List UInt8) (P : Ix → Int) (k n : Int) (l m : Nat) (B F : Ix → Int) (n' : Int) (l' m' : Nat) (B' F' : Ix → Int) :
    isEnd (evTill Tryd.prog sumsEL 800 (99) 900 7 [.code (bodyOf Tryd.f7)] (envOf [.agg (.tc (.vi .i64 fun _ => k) (.tc (.vi .i64 fun _ => n) (.tc (.vl 100 (fun _ => 0) 1 [] (fun _ => l)) (.tc (.vl 101 (fun _ => 0) 1 [] (fun _ => m)) .t0)))), .agg (.tc (.vi .i64 fun _ => 3) (.tc (.vi .i64 fun _ => n') (.tc (.vl 102 (fun _ => 0) 1 [] (fun _ => l')) (.tc (.vl 103 (fun _ => 0) 1 [] (fun _ => m')) .t0))))] Tryd.f7.ntmps) ((rbS t0 t1 t2 ++ (pwF P ++ (([⟨100, false, none, 1, .ta l (.vi .u8 B)⟩] ++ [⟨101, false, none, 1, .ta m (.vi .i64 F)⟩]) ++ ([⟨102, false, none, 1, .ta l' (.vi .u8 B')⟩] ++ [⟨103, false, none, 1, .ta m' (.vi .i64 F')⟩])))) ++ ([])) ⟨[.s true, .f, .s false, .s false, .s false, .s false, .s true, .s true, .s true, .t, .t, .t, .s true, .s true, .t, .t, .t, .t, .s false, .s false, .t, .t, .t, .s true, .s true, .t, .t, .t, .t, .f, .t, .t, .t, .t, .t, .f, .s true, .s true, .t, .t, .t, .s true, .s false, .s false, .s false, .t, .t, .t, .s true, .s false, .f, .t, .f, .s true, .s true, .s true, .s true, .s true, .s true, .s true], 110⟩) (endP ([]) (YES) ([]) 6000) =
    (OkL [(pwOK P, true), (decide ((↑l : Int) > (1100 : Int)), false), (decide ((↑m : Int) > (200 : Int)), false), (decide ((↑l' : Int) > (1100 : Int)), false), (decide ((↑m' : Int) > (200 : Int)), false), (((0 : Nat) + l).ble l, true), (((0 : Nat) + l').ble l', true), (decide (m ≤ m) && (decide (m ≤ (100000 : Nat)) && decide ((bytesOf B [] (0 : Nat) l).length ≤ (100000 : Nat))), true), (decide (m ≤ m) && (decide (m ≤ (100000 : Nat)) && decide ((bytesOf B [] (0 : Nat) l).length ≤ (100000 : Nat))), true), (rightV k n (bytesOf B [] (0 : Nat) l).length m F, true), (k == (2 : Int), false), (k == (3 : Int), false), (decide (m' ≤ m') && (decide (m' ≤ (100000 : Nat)) && decide ((bytesOf B' [] (0 : Nat) l').length ≤ (100000 : Nat))), true), (rightV (3 : Int) n' (bytesOf B' [] (0 : Nat) l').length m' F', true), (rightV k n (bytesOf B [] (0 : Nat) l).length m F, true), (decide (m ≤ m) && (decide (m ≤ (1100 : Nat)) && rightR { K := k, N := n, B := bytesOf B [] (0 : Nat) l, M := intsF F m }), true), (decide (m ≤ m) && (decide (l ≤ (100000 : Nat)) && decide (m ≤ (100000 : Nat))), true), (!rightV k n l m F, false), (k == (2 : Int), false), (k == (3 : Int), false), (decide (m' ≤ m') && (decide (l' ≤ (100000 : Nat)) && decide (m' ≤ (100000 : Nat))), true), (!rightV (3 : Int) n' l' m' F', false), (decide (m ≤ m) && (decide (l ≤ (100000 : Nat)) && decide (m ≤ (100000 : Nat))), true), (rightV k n l m F == rightV k n (bytesOf B [] (0 : Nat) l).length m F, true), (decide (m ≤ m) && (decide (l ≤ l) && (decide (l ≤ (100000 : Nat)) && (decide (m ≤ (1000 : Nat)) && (bndB B l && (rangeI F m && (pwOK P && inN n)))))), true), (lineV k n l m B F == lineR { K := k, N := n, B := bytesOf B [] (0 : Nat) l, M := intsF F m }, true), (decide (l ≤ l) && (decide (m ≤ m) && (decide (l' ≤ l') && (decide (m' ≤ m') && decide (m ≤ (100000 : Nat))))), true), (decide (m ≤ m) && (decide (m' ≤ m') && decide (m ≤ (100000 : Nat))), true), (sameV k n (3 : Int) n' l m l' m' B B' F F' == sameT k n (3 : Int) n' (bytesOf B [] (0 : Nat) l) (bytesOf B' [] (0 : Nat) l') m m' F F', true)] ∧ true = allEq (upd (upd (upd (fun x => (0 : Int)) [(0 : Nat)] (IntKind.i64.wrap (IntKind.i64.wrap ((0 : Int) + (↑l : Int)) + (↑l' : Int)))) [(1 : Nat)] (0 : Int)) [(2 : Nat)] (IntKind.i64.wrap ((0 : Int) + n'))) (fun js => upd (upd (upd (fun x => (0 : Int)) [(0 : Nat)] (IntKind.i64.wrap ((0 : Int) + (↑(bytesOf B [] (0 : Nat) l).length : Int)))) [(0 : Nat)] (IntKind.i64.wrap (upd (fun x => (0 : Int)) [(0 : Nat)] (IntKind.i64.wrap ((0 : Int) + (↑(bytesOf B [] (0 : Nat) l).length : Int))) [(0 : Nat)] + (↑(bytesOf B' [] (0 : Nat) l').length : Int)))) [(2 : Nat)] (IntKind.i64.wrap (upd (upd (fun x => (0 : Int)) [(0 : Nat)] (IntKind.i64.wrap ((0 : Int) + (↑(bytesOf B [] (0 : Nat) l).length : Int)))) [(0 : Nat)] (IntKind.i64.wrap (upd (fun x => (0 : Int)) [(0 : Nat)] (IntKind.i64.wrap ((0 : Int) + (↑(bytesOf B [] (0 : Nat) l).length : Int))) [(0 : Nat)] + (↑(bytesOf B' [] (0 : Nat) l').length : Int))) [(2 : Nat)] + n')) js) (3 : Nat) ∧ True) := by kernel_rfl

set_option maxHeartbeats 4000000 in
theorem el_o_3 (t0 t1 t2 : List UInt8) (P : Ix → Int) (k n : Int) (l m : Nat) (B F : Ix → Int) (n' : Int) (l' m' : Nat) (B' F' : Ix → Int) (hP : pwOK P = true) (hB : bndB B l = true) (hF : rangeI F m = true) (hn : inN n = true) (hB' : bndB B' l' = true) (hF' : rangeI F' m' = true) (hn' : inN n' = true) (h1 : l ≤ 1100) (h2 : m ≤ 200) (h3 : l' ≤ 1100) (h4 : m' ≤ 200) (hr : rightV k n l m F = true) (hx : k ≠ 2) (hy : k ≠ 3) (hr' : rightV 3 n' l' m' F' = true)  :
    RunsTo Tryd.prog 7 [.code (bodyOf Tryd.f7)] (envOf [.agg (.tc (.vi .i64 fun _ => k) (.tc (.vi .i64 fun _ => n) (.tc (.vl 100 (fun _ => 0) 1 [] (fun _ => l)) (.tc (.vl 101 (fun _ => 0) 1 [] (fun _ => m)) .t0)))), .agg (.tc (.vi .i64 fun _ => 3) (.tc (.vi .i64 fun _ => n') (.tc (.vl 102 (fun _ => 0) 1 [] (fun _ => l')) (.tc (.vl 103 (fun _ => 0) 1 [] (fun _ => m')) .t0))))] Tryd.f7.ntmps) (Sx.look ((rbS t0 t1 t2 ++ (pwF P ++ (([⟨100, false, none, 1, .ta l (.vi .u8 B)⟩] ++ [⟨101, false, none, 1, .ta m (.vi .i64 F)⟩]) ++ ([⟨102, false, none, 1, .ta l' (.vi .u8 B')⟩] ++ [⟨103, false, none, 1, .ta m' (.vi .i64 F')⟩])))) ++ ([]))) 110 (YES) (Sx.look ([])) 6000 := by
  have hl := lineV_T (B := B) hr
  have hR := rightR_T (B := B) hr
  refine runs_last baseEL (Sx.Ends.of (el_o_3_p0 t0 t1 t2 P k n l m B F n' l' m' B' F') ⟨?oo, ?rr⟩) (by kernel_rfl) rfl (gtL (by decide)) (by decide)
  case oo =>
    refine (okc ?_ (okc ?_ (okc ?_ (okc ?_ (okc ?_ (okc ?_ (okc ?_ (okc ?_ (okc ?_ (okc ?_ (okc ?_ (okc ?_ (okc ?_ (okc ?_ (okc ?_ (okc ?_ (okc ?_ (okc ?_ (okc ?_ (okc ?_ (okc ?_ (okc ?_ (okc ?_ (okc ?_ (okc ?_ (okc ?_ (okc ?_ (okc ?_ (okc ?_ okn)))))))))))))))))))))))))))))
    all_goals ((try simp only [by_len, rightV_B, Go.Sx.sum, hr, hr', hl, sameV_T]); first | done | rfl | omega | assumption | exact hP | exact ⟨Nat.le_refl _, by omega, by omega⟩ | exact ⟨Nat.le_refl _, Nat.le_refl _, by omega, by omega, hB, hF, hP, hn⟩ | exact ⟨Nat.le_refl _, Nat.le_refl _, Nat.le_refl _, Nat.le_refl _, by omega⟩ | exact ⟨Nat.le_refl _, Nat.le_refl _, by omega⟩ | exact ⟨Nat.le_refl _, by omega, hR⟩ | (simp (disch := omega) only [SS, by_len, rightV_B, Go.Sx.sum, hr, hr', hl, sameV_T]; first | done | omega | assumption | exact hP | exact ⟨Nat.le_refl _, by omega, by omega⟩ | exact ⟨Nat.le_refl _, Nat.le_refl _, by omega, by omega, hB, hF, hP, hn⟩ | exact ⟨Nat.le_refl _, Nat.le_refl _, Nat.le_refl _, Nat.le_refl _, by omega⟩ | exact ⟨Nat.le_refl _, Nat.le_refl _, by omega⟩ | exact ⟨Nat.le_refl _, by omega, hR⟩) | (simp_all; done) | (simp_all; omega))
  case rr =>
    refine ⟨?_, trivial⟩
    (try simp only [by_len, rightV_B, Go.Sx.sum, hr, hr', hl, sameV_T])
    first | done | rfl | (simp [allEq, List.range, List.range.loop, upd]; done) | simp_all [allEq, List.range, List.range.loop, upd]

theorem el_o_o_p0 (t0 t1 t2 : List UInt8) (P : Ix → Int) (k n : Int) (l m : Nat) (B F : Ix → Int) (k' n' : Int) (l' m' : Nat) (B' F' : Ix → Int) :
    isEnd (evTill Tryd.prog sumsEL 800 (99) 900 7 [.code (bodyOf Tryd.f7)] (envOf [.agg (.tc (.vi .i64 fun _ => k) (.tc (.vi .i64 fun _ => n) (.tc (.vl 100 (fun _ => 0) 1 [] (fun _ => l)) (.tc (.vl 101 (fun _ => 0) 1 [] (fun _ => m)) .t0)))), .agg (.tc (.vi .i64 fun _ => k') (.tc (.vi .i64 fun _ => n') (.tc (.vl 102 (fun _ => 0) 1 [] (fun _ => l')) (.tc (.vl 103 (fun _ => 0) 1 [] (fun _ => m')) .t0))))] Tryd.f7.ntmps) ((rbS t0 t1 t2 ++ (pwF P ++ (([⟨100, false, none, 1, .ta l (.vi .u8 B)⟩] ++ [⟨101, false, none, 1, .ta m (.vi .i64 F)⟩]) ++ ([⟨102, false, none, 1, .ta l' (.vi .u8 B')⟩] ++ [⟨103, false, none, 1, .ta m' (.vi .i64 F')⟩])))) ++ ([])) ⟨[.s true, .f, .s false, .s false, .s false, .s false, .s true, .s true, .s true, .t, .t, .t, .s true, .s true, .t, .t, .t, .t, .s false, .s false, .t, .t, .t, .s true, .s true, .t, .t, .t, .t, .s false, .s false, .f, .s true, .s true, .t, .t, .t, .s true, .s false, .s false, .s false, .t, .t, .t, .s true, .s false, .s false, .s false, .f, .s true, .s true, .s true, .s true, .s true, .s true, .s true], 110⟩) (endP ([]) (YES) ([]) 6000) =
    (OkL [(pwOK P, true), (decide ((↑l : Int) > (1100 : Int)), false), (decide ((↑m : Int) > (200 : Int)), false), (decide ((↑l' : Int) > (1100 : Int)), false), (decide ((↑m' : Int) > (200 : Int)), false), (((0 : Nat) + l).ble l, true), (((0 : Nat) + l').ble l', true), (decide (m ≤ m) && (decide (m ≤ (100000 : Nat)) && decide ((bytesOf B [] (0 : Nat) l).length ≤ (100000 : Nat))), true), (decide (m ≤ m) && (decide (m ≤ (100000 : Nat)) && decide ((bytesOf B [] (0 : Nat) l).length ≤ (100000 : Nat))), true), (rightV k n (bytesOf B [] (0 : Nat) l).length m F, true), (k == (2 : Int), false), (k == (3 : Int), false), (decide (m' ≤ m') && (decide (m' ≤ (100000 : Nat)) && decide ((bytesOf B' [] (0 : Nat) l').length ≤ (100000 : Nat))), true), (rightV k' n' (bytesOf B' [] (0 : Nat) l').length m' F', true), (k' == (2 : Int), false), (k' == (3 : Int), false), (rightV k n (bytesOf B [] (0 : Nat) l).length m F, true), (decide (m ≤ m) && (decide (m ≤ (1100 : Nat)) && rightR { K := k, N := n, B := bytesOf B [] (0 : Nat) l, M := intsF F m }), true), (decide (m ≤ m) && (decide (l ≤ (100000 : Nat)) && decide (m ≤ (100000 : Nat))), true), (!rightV k n l m F, false), (k == (2 : Int), false), (k == (3 : Int), false), (decide (m' ≤ m') && (decide (l' ≤ (100000 : Nat)) && decide (m' ≤ (100000 : Nat))), true), (!rightV k' n' l' m' F', false), (k' == (2 : Int), false), (k' == (3 : Int), false), (decide (m ≤ m) && (decide (l ≤ (100000 : Nat)) && decide (m ≤ (100000 : Nat))), true), (rightV k n l m F == rightV k n (bytesOf B [] (0 : Nat) l).length m F, true), (decide (m ≤ m) && (decide (l ≤ l) && (decide (l ≤ (100000 : Nat)) && (decide (m ≤ (1000 : Nat)) && (bndB B l && (rangeI F m && (pwOK P && inN n)))))), true), (lineV k n l m B F == lineR { K := k, N := n, B := bytesOf B [] (0 : Nat) l, M := intsF F m }, true), (decide (l ≤ l) && (decide (m ≤ m) && (decide (l' ≤ l') && (decide (m' ≤ m') && decide (m ≤ (100000 : Nat))))), true), (decide (m ≤ m) && (decide (m' ≤ m') && decide (m ≤ (100000 : Nat))), true), (sameV k n k' n' l m l' m' B B' F F' == sameT k n k' n' (bytesOf B [] (0 : Nat) l) (bytesOf B' [] (0 : Nat) l') m m' F F', true)] ∧ true = allEq (upd (upd (upd (fun x => (0 : Int)) [(0 : Nat)] (IntKind.i64.wrap (IntKind.i64.wrap ((0 : Int) + (↑l : Int)) + (↑l' : Int)))) [(1 : Nat)] (0 : Int)) [(2 : Nat)] (0 : Int)) (fun js => upd (upd (fun x => (0 : Int)) [(0 : Nat)] (IntKind.i64.wrap ((0 : Int) + (↑(bytesOf B [] (0 : Nat) l).length : Int)))) [(0 : Nat)] (IntKind.i64.wrap (upd (fun x => (0 : Int)) [(0 : Nat)] (IntKind.i64.wrap ((0 : Int) + (↑(bytesOf B [] (0 : Nat) l).length : Int))) [(0 : Nat)] + (↑(bytesOf B' [] (0 : Nat) l').length : Int))) js) (3 : Nat) ∧ True) := by kernel_rfl

set_option maxHeartbeats 4000000 in
theorem el_o_o (t0 t1 t2 : List UInt8) (P : Ix → Int) (k n : Int) (l m : Nat) (B F : Ix → Int) (k' n' : Int) (l' m' : Nat) (B' F' : Ix → Int) (hP : pwOK P = true) (hB : bndB B l = true) (hF : rangeI F m = true) (hn : inN n = true) (hB' : bndB B' l' = true) (hF' : rangeI F' m' = true) (hn' : inN n' = true) (h1 : l ≤ 1100) (h2 : m ≤ 200) (h3 : l' ≤ 1100) (h4 : m' ≤ 200) (hr : rightV k n l m F = true) (hx : k ≠ 2) (hy : k ≠ 3) (hr' : rightV k' n' l' m' F' = true) (hx' : k' ≠ 2) (hy' : k' ≠ 3)  :
    RunsTo Tryd.prog 7 [.code (bodyOf Tryd.f7)] (envOf [.agg (.tc (.vi .i64 fun _ => k) (.tc (.vi .i64 fun _ => n) (.tc (.vl 100 (fun _ => 0) 1 [] (fun _ => l)) (.tc (.vl 101 (fun _ => 0) 1 [] (fun _ => m)) .t0)))), .agg (.tc (.vi .i64 fun _ => k') (.tc (.vi .i64 fun _ => n') (.tc (.vl 102 (fun _ => 0) 1 [] (fun _ => l')) (.tc (.vl 103 (fun _ => 0) 1 [] (fun _ => m')) .t0))))] Tryd.f7.ntmps) (Sx.look ((rbS t0 t1 t2 ++ (pwF P ++ (([⟨100, false, none, 1, .ta l (.vi .u8 B)⟩] ++ [⟨101, false, none, 1, .ta m (.vi .i64 F)⟩]) ++ ([⟨102, false, none, 1, .ta l' (.vi .u8 B')⟩] ++ [⟨103, false, none, 1, .ta m' (.vi .i64 F')⟩])))) ++ ([]))) 110 (YES) (Sx.look ([])) 6000 := by
  have hl := lineV_T (B := B) hr
  have hR := rightR_T (B := B) hr
  refine runs_last baseEL (Sx.Ends.of (el_o_o_p0 t0 t1 t2 P k n l m B F k' n' l' m' B' F') ⟨?oo, ?rr⟩) (by kernel_rfl) rfl (gtL (by decide)) (by decide)
  case oo =>
    refine (okc ?_ (okc ?_ (okc ?_ (okc ?_ (okc ?_ (okc ?_ (okc ?_ (okc ?_ (okc ?_ (okc ?_ (okc ?_ (okc ?_ (okc ?_ (okc ?_ (okc ?_ (okc ?_ (okc ?_ (okc ?_ (okc ?_ (okc ?_ (okc ?_ (okc ?_ (okc ?_ (okc ?_ (okc ?_ (okc ?_ (okc ?_ (okc ?_ (okc ?_ (okc ?_ (okc ?_ (okc ?_ (okc ?_ okn)))))))))))))))))))))))))))))))))
    all_goals ((try simp only [by_len, rightV_B, Go.Sx.sum, hr, hr', hl, sameV_T]); first | done | rfl | omega | assumption | exact hP | exact ⟨Nat.le_refl _, by omega, by omega⟩ | exact ⟨Nat.le_refl _, Nat.le_refl _, by omega, by omega, hB, hF, hP, hn⟩ | exact ⟨Nat.le_refl _, Nat.le_refl _, Nat.le_refl _, Nat.le_refl _, by omega⟩ | exact ⟨Nat.le_refl _, Nat.le_refl _, by omega⟩ | exact ⟨Nat.le_refl _, by omega, hR⟩ | (simp (disch := omega) only [SS, by_len, rightV_B, Go.Sx.sum, hr, hr', hl, sameV_T]; first | done | omega | assumption | exact hP | exact ⟨Nat.le_refl _, by omega, by omega⟩ | exact ⟨Nat.le_refl _, Nat.le_refl _, by omega, by omega, hB, hF, hP, hn⟩ | exact ⟨Nat.le_refl _, Nat.le_refl _, Nat.le_refl _, Nat.le_refl _, by omega⟩ | exact ⟨Nat.le_refl _, Nat.le_refl _, by omega⟩ | exact ⟨Nat.le_refl _, by omega, hR⟩) | (simp_all; done) | (simp_all; omega))
  case rr =>
    refine ⟨?_, trivial⟩
    (try simp only [by_len, rightV_B, Go.Sx.sum, hr, hr', hl, sameV_T])
    first | done | rfl | (simp [allEq, List.range, List.range.loop, upd]; done) | simp_all [allEq, List.range, List.range.loop, upd]

end Go.Proofs.YtankmgnjkcgpaaaDoor

set_option linter.unusedSimpArgs false
set_option linter.unusedVariables false
set_option maxRecDepth 100000
namespace Go.Proofs.YtankmgnjkcgpaaaDoor
open Go.Sx RawR

theorem rawEvents_law (t0 t1 t2 : List UInt8) (P : Ix → Int) (k n : Int) (l m : Nat) (B F : Ix → Int) (k' n' : Int) (l' m' : Nat) (B' F' : Ix → Int) (hP : pwOK P = true) (hB : bndB B l = true) (hF : rangeI F m = true) (hn : inN n = true) (hB' : bndB B' l' = true) (hF' : rangeI F' m' = true) (hn' : inN n' = true) : RunsTo Tryd.prog 7 [.code (bodyOf Tryd.f7)] (envOf [.agg (.tc (.vi .i64 fun _ => k) (.tc (.vi .i64 fun _ => n) (.tc (.vl 100 (fun _ => 0) 1 [] (fun _ => l)) (.tc (.vl 101 (fun _ => 0) 1 [] (fun _ => m)) .t0)))), .agg (.tc (.vi .i64 fun _ => k') (.tc (.vi .i64 fun _ => n') (.tc (.vl 102 (fun _ => 0) 1 [] (fun _ => l')) (.tc (.vl 103 (fun _ => 0) 1 [] (fun _ => m')) .t0))))] Tryd.f7.ntmps) (Sx.look ((rbS t0 t1 t2 ++ (pwF P ++ (([⟨100, false, none, 1, .ta l (.vi .u8 B)⟩] ++ [⟨101, false, none, 1, .ta m (.vi .i64 F)⟩]) ++ ([⟨102, false, none, 1, .ta l' (.vi .u8 B')⟩] ++ [⟨103, false, none, 1, .ta m' (.vi .i64 F')⟩])))) ++ ([]))) 110 (YES) (Sx.look []) 6000 := by
  by_cases h : 1100 < l ∨ 200 < m ∨ 1100 < l' ∨ 200 < m'
  · exact el0 t0 t1 t2 P k n l m B F k' n' l' m' B' F' hP hB hF hn hB' hF' hn' h
  have h1 : l ≤ 1100 := by omega
  have h2 : m ≤ 200 := by omega
  have h3 : l' ≤ 1100 := by omega
  have h4 : m' ≤ 200 := by omega
  cases hr : rightV k n l m F with
  | false =>
    cases hr' : rightV k' n' l' m' F' with
    | false => exact el_bad_bad t0 t1 t2 P k n l m B F k' n' l' m' B' F' hP hB hF hn hB' hF' hn' h1 h2 h3 h4 hr hr'
    | true =>
      by_cases hx' : k' = 2
      · subst hx'; exact el_bad_2 t0 t1 t2 P k n l m B F n' l' m' B' F' hP hB hF hn hB' hF' hn' h1 h2 h3 h4 hr hr'
      by_cases hy' : k' = 3
      · subst hy'; exact el_bad_3 t0 t1 t2 P k n l m B F n' l' m' B' F' hP hB hF hn hB' hF' hn' h1 h2 h3 h4 hr hr'
      exact el_bad_o t0 t1 t2 P k n l m B F k' n' l' m' B' F' hP hB hF hn hB' hF' hn' h1 h2 h3 h4 hr hr' hx' hy'
  | true =>
    by_cases hx : k = 2
    · subst hx
      cases hr' : rightV k' n' l' m' F' with
      | false => exact el_2_bad t0 t1 t2 P n l m B F k' n' l' m' B' F' hP hB hF hn hB' hF' hn' h1 h2 h3 h4 hr hr'
      | true =>
        by_cases hx' : k' = 2
        · subst hx'; exact el_2_2 t0 t1 t2 P n l m B F n' l' m' B' F' hP hB hF hn hB' hF' hn' h1 h2 h3 h4 hr hr'
        by_cases hy' : k' = 3
        · subst hy'; exact el_2_3 t0 t1 t2 P n l m B F n' l' m' B' F' hP hB hF hn hB' hF' hn' h1 h2 h3 h4 hr hr'
        exact el_2_o t0 t1 t2 P n l m B F k' n' l' m' B' F' hP hB hF hn hB' hF' hn' h1 h2 h3 h4 hr hr' hx' hy'
    by_cases hy : k = 3
    · subst hy
      cases hr' : rightV k' n' l' m' F' with
      | false => exact el_3_bad t0 t1 t2 P n l m B F k' n' l' m' B' F' hP hB hF hn hB' hF' hn' h1 h2 h3 h4 hr hr'
      | true =>
        by_cases hx' : k' = 2
        · subst hx'; exact el_3_2 t0 t1 t2 P n l m B F n' l' m' B' F' hP hB hF hn hB' hF' hn' h1 h2 h3 h4 hr hr'
        by_cases hy' : k' = 3
        · subst hy'; exact el_3_3 t0 t1 t2 P n l m B F n' l' m' B' F' hP hB hF hn hB' hF' hn' h1 h2 h3 h4 hr hr'
        exact el_3_o t0 t1 t2 P n l m B F k' n' l' m' B' F' hP hB hF hn hB' hF' hn' h1 h2 h3 h4 hr hr' hx' hy'
    cases hr' : rightV k' n' l' m' F' with
    | false => exact el_o_bad t0 t1 t2 P k n l m B F k' n' l' m' B' F' hP hB hF hn hB' hF' hn' h1 h2 h3 h4 hr hx hy hr'
    | true =>
      by_cases hx' : k' = 2
      · subst hx'; exact el_o_2 t0 t1 t2 P k n l m B F n' l' m' B' F' hP hB hF hn hB' hF' hn' h1 h2 h3 h4 hr hx hy hr'
      by_cases hy' : k' = 3
      · subst hy'; exact el_o_3 t0 t1 t2 P k n l m B F n' l' m' B' F' hP hB hF hn hB' hF' hn' h1 h2 h3 h4 hr hx hy hr'
      exact el_o_o t0 t1 t2 P k n l m B F k' n' l' m' B' F' hP hB hF hn hB' hF' hn' h1 h2 h3 h4 hr hx hy hr' hx' hy'
theorem rawEvents_lawT (t0 t1 t2 : List UInt8) (k n : Int) (l m : Nat) (B F : Ix → Int) (k' n' : Int) (l' m' : Nat) (B' F' : Ix → Int) (hB : bndB B l = true) (hF : rangeI F m = true) (hn : inN n = true) (hB' : bndB B' l' = true) (hF' : rangeI F' m' = true) (hn' : inN n' = true) : RunsTo Tryd.prog 7 [.code (bodyOf Tryd.f7)] (envOf [.agg (.tc (.vi .i64 fun _ => k) (.tc (.vi .i64 fun _ => n) (.tc (.vl 100 (fun _ => 0) 1 [] (fun _ => l)) (.tc (.vl 101 (fun _ => 0) 1 [] (fun _ => m)) .t0)))), .agg (.tc (.vi .i64 fun _ => k') (.tc (.vi .i64 fun _ => n') (.tc (.vl 102 (fun _ => 0) 1 [] (fun _ => l')) (.tc (.vl 103 (fun _ => 0) 1 [] (fun _ => m')) .t0))))] Tryd.f7.ntmps) (Sx.look ((rbS t0 t1 t2 ++ (pwF powF ++ (([⟨100, false, none, 1, .ta l (.vi .u8 B)⟩] ++ [⟨101, false, none, 1, .ta m (.vi .i64 F)⟩]) ++ ([⟨102, false, none, 1, .ta l' (.vi .u8 B')⟩] ++ [⟨103, false, none, 1, .ta m' (.vi .i64 F')⟩])))) ++ ([]))) 110 (YES) (Sx.look []) 6000 :=
  rawEvents_law t0 t1 t2 powF k n l m B F k' n' l' m' B' F' powF_ok hB hF hn hB' hF' hn'

end Go.Proofs.YtankmgnjkcgpaaaDoor

