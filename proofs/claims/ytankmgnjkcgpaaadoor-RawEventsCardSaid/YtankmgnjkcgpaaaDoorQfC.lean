/- Raw: Parse. -/
import Derived.Test.YtankmgnjkcgpaaaDoorQeC
set_option linter.unusedSimpArgs false
set_option linter.unusedVariables false
set_option maxRecDepth 100000
namespace Go.Proofs.YtankmgnjkcgpaaaDoor
open Go.Sx

open RawR
def paX (H : List Ent) : List Ent := sentEnts 24 194 (textsIn 24 H [1, 20, 21])
def evTr (l f : Nat) (e : RawR.Ev) : Tr := .tc (.vi .i64 fun _ => e.K) (.tc (.vi .i64 fun _ => e.N) (.tc (.vl l (fun _ => 0) 1 [] (fun _ => e.B.length)) (.tc (.vl f (fun _ => 0) 1 [] (fun _ => e.M.length)) .t0)))
def paV (e : RawR.Ev) (k : Nat) : SV := .tup [(true, evTr 141 142 e), (false, .vx 194 errL fun _ => k)]
def evR (s : List UInt8) : RawR.Ev := (parseR s).getD ev0
def evK (s : List UInt8) : Nat := if (parseR s).isSome then 16 else 4
def evP (e : RawR.Ev) : List Ent := bW 141 e.B ++ iW 142 e.M
def sumsPA : List (FuncId × Summ) := [(76, spP.summ 48), (86, rdP.summ 48), (87, mkP.summ 48), (88, nuP.summ 48), (31, rgP.summ 48)]
theorem basePA : Base0 Tryd.prog sumsPA := (((((baseO.cons Tryd.func31 (by kernel_rfl) (PC.summ_ok rgP_pc gtopG)).cons Tryd.func88 (by kernel_rfl) (PC.summ_ok nuP_pc gtopG)).cons Tryd.func87 (by kernel_rfl) (PC.summ_ok mkP_pc gtopG)).cons Tryd.func86 (by kernel_rfl) (PC.summ_ok rdP_pc gtopG)).cons Tryd.func76 (by kernel_rfl) (PC.summ_ok spP_pc gtopG))
def sumsPB : List (FuncId × Summ) := [(76, spP.summ 48), (86, rdP.summ 48), (87, mkP.summ 48), (88, nuP.summ 48)]
theorem basePB : Base0 Tryd.prog sumsPB := ((((baseO.cons Tryd.func88 (by kernel_rfl) (PC.summ_ok nuP_pc gtopG)).cons Tryd.func87 (by kernel_rfl) (PC.summ_ok mkP_pc gtopG)).cons Tryd.func86 (by kernel_rfl) (PC.summ_ok rdP_pc gtopG)).cons Tryd.func76 (by kernel_rfl) (PC.summ_ok spP_pc gtopG))
theorem pa0_p0 (H : List Ent) (s : List UInt8) (w : List UInt8) (ws : List (List UInt8)) :
    isEnd (evTill Tryd.prog sumsPB 500 (99) 900 30 [.code (bodyOf Tryd.f30)] (envOf [vS s] Tryd.f30.ntmps) (paX H ++ ([])) ⟨[.s true, .s true, .s true, .s true, .s false, .s false, .s false, .s false, .t], 80⟩) (endP ([((141 : Nat), Rn.nil (1 : Nat)), ((142 : Nat), Rn.nil (1 : Nat))]) (paV (ev0) 4) (evP (ev0)) 400) =
    (OkL [(decide ([(32 : UInt8)] = [#[(32 : UInt8)].toList.headD (0 : UInt8)]) && (decide ((0 : Int) = (0 : Int)) && (decide ((-1 : Int) = (-1 : Int)) && decide (s.length ≤ (1000000 : Nat)))), true), (decide ((0 : Int) ≤ (0 : Int) ∧ (0 : Int) < (↑(splitR (#[(32 : UInt8)].toList.headD (0 : UInt8)) s).length : Int)), true), (Nat.blt (0 : Nat) (splitR (#[(32 : UInt8)].toList.headD (0 : UInt8)) s).length, true), (Nat.blt (0 : Nat) (splitR (#[(32 : UInt8)].toList.headD (0 : UInt8)) s).length, true), ((splitR (#[(32 : UInt8)].toList.headD (0 : UInt8)) s).getD (0 : Nat) [] == [(98 : UInt8), (121 : UInt8), (116 : UInt8), (101 : UInt8), (115 : UInt8)], false), ((splitR (#[(32 : UInt8)].toList.headD (0 : UInt8)) s).getD (0 : Nat) [] == [(103 : UInt8), (114 : UInt8), (97 : UInt8), (110 : UInt8), (116 : UInt8)], false), ((splitR (#[(32 : UInt8)].toList.headD (0 : UInt8)) s).getD (0 : Nat) [] == [(116 : UInt8), (105 : UInt8), (99 : UInt8), (107 : UInt8)], false), ((splitR (#[(32 : UInt8)].toList.headD (0 : UInt8)) s).getD (0 : Nat) [] == [(99 : UInt8), (108 : UInt8), (111 : UInt8), (115 : UInt8), (101 : UInt8)], false)] ∧ (((0 : Int) = (0 : Int) ∧ (0 : Int) = (0 : Int) ∧ (0 : Nat) = (0 : Nat) ∧ (0 : Nat) = (0 : Nat)) ∧ ((0 : Nat) = (0 : Nat) ∧ true = true) ∧ True) ∧ (0 : Nat) = (0 : Nat) ∧ (0 : Nat) = (0 : Nat)) := by kernel_rfl

set_option maxHeartbeats 4000000 in
theorem pa0 (H : List Ent) (s : List UInt8) (w : List UInt8) (ws : List (List UInt8)) (hl : s.length ≤ 100000) (hT : splitR 32 s = w :: ws) (hw1 : w ≠ [98, 121, 116, 101, 115]) (hw2 : w ≠ [103, 114, 97, 110, 116]) (hw3 : w ≠ [116, 105, 99, 107]) (hw4 : w ≠ [99, 108, 111, 115, 101])  :
    RunsTo Tryd.prog 30 [.code (bodyOf Tryd.f30)] (envOf [vS s] Tryd.f30.ntmps) (Sx.look (paX H ++ ([]))) 80 (paV (ev0) 4) (Sx.look (evP (ev0))) 400 := by
  refine runs_last basePB (Sx.Ends.of (pa0_p0 H s w ws) ⟨?oo, ?rr⟩) (by kernel_rfl) rfl (gtL (by decide)) (by decide)
  case oo =>
    refine (okc ?_ (okc ?_ (okc ?_ (okc ?_ (okc ?_ (okc ?_ (okc ?_ (okc ?_ okn))))))))
    all_goals ((try simp only [List.headD_cons, hT]); first | done | rfl | omega | assumption | exact ⟨rfl, rfl, rfl, hl⟩ | (simp (disch := omega) only [SS, List.headD_cons, hT, List.length_cons, List.length_nil]; first | done | omega | assumption) | (simp_all; done) | (simp_all; omega))
  case rr =>
    (try simp only [List.headD_cons, hT])
    repeat' apply And.intro
    all_goals first | exact True.intro | with_reducible rfl | rfl | omega | (intro k hk; exact absurd hk (Nat.not_lt_zero _)) | (simp_all [ev0]; done) | (intros; rfl)

theorem pag1_p0 (H : List Ent) (s : List UInt8) (ws : List (List UInt8)) :
    isEnd (evTill Tryd.prog sumsPB 500 (99) 900 30 [.code (bodyOf Tryd.f30)] (envOf [vS s] Tryd.f30.ntmps) (paX H ++ ([])) ⟨[.s true, .s true, .s true, .s true, .s false, .s true, .s true, .t], 80⟩) (endP ([((141 : Nat), Rn.nil (1 : Nat)), ((142 : Nat), Rn.nil (1 : Nat))]) (paV (ev0) 4) (evP (ev0)) 400) =
    (OkL [(decide ([(32 : UInt8)] = [#[(32 : UInt8)].toList.headD (0 : UInt8)]) && (decide ((0 : Int) = (0 : Int)) && (decide ((-1 : Int) = (-1 : Int)) && decide (s.length ≤ (1000000 : Nat)))), true), (decide ((0 : Int) ≤ (0 : Int) ∧ (0 : Int) < (↑(splitR (#[(32 : UInt8)].toList.headD (0 : UInt8)) s).length : Int)), true), (Nat.blt (0 : Nat) (splitR (#[(32 : UInt8)].toList.headD (0 : UInt8)) s).length, true), (Nat.blt (0 : Nat) (splitR (#[(32 : UInt8)].toList.headD (0 : UInt8)) s).length, true), ((splitR (#[(32 : UInt8)].toList.headD (0 : UInt8)) s).getD (0 : Nat) [] == [(98 : UInt8), (121 : UInt8), (116 : UInt8), (101 : UInt8), (115 : UInt8)], false), ((splitR (#[(32 : UInt8)].toList.headD (0 : UInt8)) s).getD (0 : Nat) [] == [(103 : UInt8), (114 : UInt8), (97 : UInt8), (110 : UInt8), (116 : UInt8)], true), ((↑(splitR (#[(32 : UInt8)].toList.headD (0 : UInt8)) s).length : Int) != (2 : Int), true)] ∧ (((0 : Int) = (0 : Int) ∧ (0 : Int) = (0 : Int) ∧ (0 : Nat) = (0 : Nat) ∧ (0 : Nat) = (0 : Nat)) ∧ ((0 : Nat) = (0 : Nat) ∧ true = true) ∧ True) ∧ (0 : Nat) = (0 : Nat) ∧ (0 : Nat) = (0 : Nat)) := by kernel_rfl

set_option maxHeartbeats 4000000 in
theorem pag1 (H : List Ent) (s : List UInt8) (ws : List (List UInt8)) (hl : s.length ≤ 100000) (hT : splitR 32 s = [103, 114, 97, 110, 116] :: ws) (hn : ws.length ≠ 1)  :
    RunsTo Tryd.prog 30 [.code (bodyOf Tryd.f30)] (envOf [vS s] Tryd.f30.ntmps) (Sx.look (paX H ++ ([]))) 80 (paV (ev0) 4) (Sx.look (evP (ev0))) 400 := by
  refine runs_last basePB (Sx.Ends.of (pag1_p0 H s ws) ⟨?oo, ?rr⟩) (by kernel_rfl) rfl (gtL (by decide)) (by decide)
  case oo =>
    refine (okc ?_ (okc ?_ (okc ?_ (okc ?_ (okc ?_ (okc ?_ (okc ?_ okn)))))))
    all_goals ((try simp only [List.headD_cons, hT]); first | done | rfl | omega | assumption | exact ⟨rfl, rfl, rfl, hl⟩ | (simp (disch := omega) only [SS, List.headD_cons, hT, List.length_cons, List.length_nil]; first | done | omega | assumption) | (simp_all; done) | (simp_all; omega))
  case rr =>
    (try simp only [List.headD_cons, hT])
    repeat' apply And.intro
    all_goals first | exact True.intro | with_reducible rfl | rfl | omega | (intro k hk; exact absurd hk (Nat.not_lt_zero _)) | (simp_all [ev0]; done) | (intros; rfl)

theorem pag2_p0 (H : List Ent) (s : List UInt8) (x : List UInt8) :
    isEnd (evTill Tryd.prog sumsPB 500 (99) 900 30 [.code (bodyOf Tryd.f30)] (envOf [vS s] Tryd.f30.ntmps) (paX H ++ ([])) ⟨[.s true, .s true, .s true, .s true, .s false, .s true, .s false, .s true, .s true, .s true, .s true, .s true], 80⟩) (endP ([((141 : Nat), Rn.nil (1 : Nat)), ((142 : Nat), Rn.nil (1 : Nat))]) (paV (ev0) 4) (evP (ev0)) 400) =
    (OkL [(decide ([(32 : UInt8)] = [#[(32 : UInt8)].toList.headD (0 : UInt8)]) && (decide ((0 : Int) = (0 : Int)) && (decide ((-1 : Int) = (-1 : Int)) && decide (s.length ≤ (1000000 : Nat)))), true), (decide ((0 : Int) ≤ (0 : Int) ∧ (0 : Int) < (↑(splitR (#[(32 : UInt8)].toList.headD (0 : UInt8)) s).length : Int)), true), (Nat.blt (0 : Nat) (splitR (#[(32 : UInt8)].toList.headD (0 : UInt8)) s).length, true), (Nat.blt (0 : Nat) (splitR (#[(32 : UInt8)].toList.headD (0 : UInt8)) s).length, true), ((splitR (#[(32 : UInt8)].toList.headD (0 : UInt8)) s).getD (0 : Nat) [] == [(98 : UInt8), (121 : UInt8), (116 : UInt8), (101 : UInt8), (115 : UInt8)], false), ((splitR (#[(32 : UInt8)].toList.headD (0 : UInt8)) s).getD (0 : Nat) [] == [(103 : UInt8), (114 : UInt8), (97 : UInt8), (110 : UInt8), (116 : UInt8)], true), ((↑(splitR (#[(32 : UInt8)].toList.headD (0 : UInt8)) s).length : Int) != (2 : Int), false), (decide ((0 : Int) ≤ (1 : Int) ∧ (1 : Int) < (↑(splitR (#[(32 : UInt8)].toList.headD (0 : UInt8)) s).length : Int)), true), (Nat.blt (1 : Nat) (splitR (#[(32 : UInt8)].toList.headD (0 : UInt8)) s).length, true), (Nat.blt (1 : Nat) (splitR (#[(32 : UInt8)].toList.headD (0 : UInt8)) s).length, true), (decide (((splitR (#[(32 : UInt8)].toList.headD (0 : UInt8)) s).getD (1 : Nat) []).length ≤ (1000000 : Nat)), true), (!numOK ((splitR (#[(32 : UInt8)].toList.headD (0 : UInt8)) s).getD (1 : Nat) []), true)] ∧ (((0 : Int) = (0 : Int) ∧ (0 : Int) = (0 : Int) ∧ (0 : Nat) = (0 : Nat) ∧ (0 : Nat) = (0 : Nat)) ∧ ((0 : Nat) = (0 : Nat) ∧ true = true) ∧ True) ∧ (0 : Nat) = (0 : Nat) ∧ (0 : Nat) = (0 : Nat)) := by kernel_rfl

set_option maxHeartbeats 4000000 in
theorem pag2 (H : List Ent) (s : List UInt8) (x : List UInt8) (hl : s.length ≤ 100000) (hT : splitR 32 s = [[103, 114, 97, 110, 116], x]) (hx : numOK x = false) (hxl : x.length ≤ 100000)  :
    RunsTo Tryd.prog 30 [.code (bodyOf Tryd.f30)] (envOf [vS s] Tryd.f30.ntmps) (Sx.look (paX H ++ ([]))) 80 (paV (ev0) 4) (Sx.look (evP (ev0))) 400 := by
  refine runs_last basePB (Sx.Ends.of (pag2_p0 H s x) ⟨?oo, ?rr⟩) (by kernel_rfl) rfl (gtL (by decide)) (by decide)
  case oo =>
    refine (okc ?_ (okc ?_ (okc ?_ (okc ?_ (okc ?_ (okc ?_ (okc ?_ (okc ?_ (okc ?_ (okc ?_ (okc ?_ (okc ?_ okn))))))))))))
    all_goals ((try simp only [List.headD_cons, hT]); first | done | rfl | omega | assumption | exact ⟨rfl, rfl, rfl, hl⟩ | (simp (disch := omega) only [SS, List.headD_cons, hT, List.length_cons, List.length_nil]; first | done | omega | assumption) | (simp_all; done) | (simp_all; omega))
  case rr =>
    (try simp only [List.headD_cons, hT])
    repeat' apply And.intro
    all_goals first | exact True.intro | with_reducible rfl | rfl | omega | (intro k hk; exact absurd hk (Nat.not_lt_zero _)) | (simp_all [ev0]; done) | (intros; rfl)

theorem pag3_p0 (H : List Ent) (s : List UInt8) (x b : List UInt8) (m : List Int) :
    isEnd (evTill Tryd.prog sumsPB 500 (99) 900 30 [.code (bodyOf Tryd.f30)] (envOf [vS s] Tryd.f30.ntmps) (paX H ++ ([])) ⟨[.s true, .s true, .s true, .s true, .s false, .s true, .s false, .s true, .s true, .s true, .s true, .s false, .f, .t, .t, .t, .s true, .f], 80⟩) (endP ([((141 : Nat), Rn.nil (1 : Nat)), ((142 : Nat), Rn.nil (1 : Nat))]) (paV (⟨2, numV x, b, m⟩) 16) (evP (⟨2, numV x, b, m⟩)) 400) =
    (OkL [(decide ([(32 : UInt8)] = [#[(32 : UInt8)].toList.headD (0 : UInt8)]) && (decide ((0 : Int) = (0 : Int)) && (decide ((-1 : Int) = (-1 : Int)) && decide (s.length ≤ (1000000 : Nat)))), true), (decide ((0 : Int) ≤ (0 : Int) ∧ (0 : Int) < (↑(splitR (#[(32 : UInt8)].toList.headD (0 : UInt8)) s).length : Int)), true), (Nat.blt (0 : Nat) (splitR (#[(32 : UInt8)].toList.headD (0 : UInt8)) s).length, true), (Nat.blt (0 : Nat) (splitR (#[(32 : UInt8)].toList.headD (0 : UInt8)) s).length, true), ((splitR (#[(32 : UInt8)].toList.headD (0 : UInt8)) s).getD (0 : Nat) [] == [(98 : UInt8), (121 : UInt8), (116 : UInt8), (101 : UInt8), (115 : UInt8)], false), ((splitR (#[(32 : UInt8)].toList.headD (0 : UInt8)) s).getD (0 : Nat) [] == [(103 : UInt8), (114 : UInt8), (97 : UInt8), (110 : UInt8), (116 : UInt8)], true), ((↑(splitR (#[(32 : UInt8)].toList.headD (0 : UInt8)) s).length : Int) != (2 : Int), false), (decide ((0 : Int) ≤ (1 : Int) ∧ (1 : Int) < (↑(splitR (#[(32 : UInt8)].toList.headD (0 : UInt8)) s).length : Int)), true), (Nat.blt (1 : Nat) (splitR (#[(32 : UInt8)].toList.headD (0 : UInt8)) s).length, true), (Nat.blt (1 : Nat) (splitR (#[(32 : UInt8)].toList.headD (0 : UInt8)) s).length, true), (decide (((splitR (#[(32 : UInt8)].toList.headD (0 : UInt8)) s).getD (1 : Nat) []).length ≤ (1000000 : Nat)), true), (!numOK ((splitR (#[(32 : UInt8)].toList.headD (0 : UInt8)) s).getD (1 : Nat) []), false), (decide (numV ((splitR (#[(32 : UInt8)].toList.headD (0 : UInt8)) s).getD (1 : Nat) []) ≤ (9999 : Int)), true)] ∧ (((2 : Int) = (2 : Int) ∧ numV x = numV ((splitR (#[(32 : UInt8)].toList.headD (0 : UInt8)) s).getD (1 : Nat) []) ∧ b.length = (0 : Nat) ∧ m.length = (0 : Nat)) ∧ (none : Option Nat) = none ∧ True) ∧ b.length = (0 : Nat) ∧ m.length = (0 : Nat)) := by kernel_rfl

set_option maxHeartbeats 4000000 in
theorem pag3 (H : List Ent) (s : List UInt8) (x b : List UInt8) (m : List Int) (hl : s.length ≤ 100000) (hT : splitR 32 s = [[103, 114, 97, 110, 116], x]) (hb : b = []) (hm : m = []) (hx : numOK x = true) (hxl : x.length ≤ 100000) (h0 : 0 ≤ numV x) (h9 : numV x ≤ 9999)  :
    RunsTo Tryd.prog 30 [.code (bodyOf Tryd.f30)] (envOf [vS s] Tryd.f30.ntmps) (Sx.look (paX H ++ ([]))) 80 (paV (⟨2, numV x, b, m⟩) 16) (Sx.look (evP (⟨2, numV x, b, m⟩))) 400 := by
  refine runs_last basePB (Sx.Ends.of (pag3_p0 H s x b m) ⟨?oo, ?rr⟩) (by kernel_rfl) rfl (gtL (by decide)) (by decide)
  case oo =>
    refine (okc ?_ (okc ?_ (okc ?_ (okc ?_ (okc ?_ (okc ?_ (okc ?_ (okc ?_ (okc ?_ (okc ?_ (okc ?_ (okc ?_ (okc ?_ okn)))))))))))))
    all_goals ((try simp only [List.headD_cons, hT]); first | done | rfl | omega | assumption | exact ⟨rfl, rfl, rfl, hl⟩ | (simp (disch := omega) only [SS, List.headD_cons, hT, List.length_cons, List.length_nil]; first | done | omega | assumption) | (simp_all; done) | (simp_all; omega))
  case rr =>
    (try simp only [List.headD_cons, hT])
    repeat' apply And.intro
    all_goals first | exact True.intro | with_reducible rfl | rfl | omega | (intro k hk; exact absurd hk (Nat.not_lt_zero _)) | (simp_all [ev0]; done) | (intros; rfl)

theorem pat1_p0 (H : List Ent) (s : List UInt8) (ws : List (List UInt8)) :
    isEnd (evTill Tryd.prog sumsPB 500 (99) 900 30 [.code (bodyOf Tryd.f30)] (envOf [vS s] Tryd.f30.ntmps) (paX H ++ ([])) ⟨[.s true, .s true, .s true, .s true, .s false, .s false, .s true, .s true, .t], 80⟩) (endP ([((141 : Nat), Rn.nil (1 : Nat)), ((142 : Nat), Rn.nil (1 : Nat))]) (paV (ev0) 4) (evP (ev0)) 400) =
    (OkL [(decide ([(32 : UInt8)] = [#[(32 : UInt8)].toList.headD (0 : UInt8)]) && (decide ((0 : Int) = (0 : Int)) && (decide ((-1 : Int) = (-1 : Int)) && decide (s.length ≤ (1000000 : Nat)))), true), (decide ((0 : Int) ≤ (0 : Int) ∧ (0 : Int) < (↑(splitR (#[(32 : UInt8)].toList.headD (0 : UInt8)) s).length : Int)), true), (Nat.blt (0 : Nat) (splitR (#[(32 : UInt8)].toList.headD (0 : UInt8)) s).length, true), (Nat.blt (0 : Nat) (splitR (#[(32 : UInt8)].toList.headD (0 : UInt8)) s).length, true), ((splitR (#[(32 : UInt8)].toList.headD (0 : UInt8)) s).getD (0 : Nat) [] == [(98 : UInt8), (121 : UInt8), (116 : UInt8), (101 : UInt8), (115 : UInt8)], false), ((splitR (#[(32 : UInt8)].toList.headD (0 : UInt8)) s).getD (0 : Nat) [] == [(103 : UInt8), (114 : UInt8), (97 : UInt8), (110 : UInt8), (116 : UInt8)], false), ((splitR (#[(32 : UInt8)].toList.headD (0 : UInt8)) s).getD (0 : Nat) [] == [(116 : UInt8), (105 : UInt8), (99 : UInt8), (107 : UInt8)], true), ((↑(splitR (#[(32 : UInt8)].toList.headD (0 : UInt8)) s).length : Int) != (2 : Int), true)] ∧ (((0 : Int) = (0 : Int) ∧ (0 : Int) = (0 : Int) ∧ (0 : Nat) = (0 : Nat) ∧ (0 : Nat) = (0 : Nat)) ∧ ((0 : Nat) = (0 : Nat) ∧ true = true) ∧ True) ∧ (0 : Nat) = (0 : Nat) ∧ (0 : Nat) = (0 : Nat)) := by kernel_rfl

set_option maxHeartbeats 4000000 in
theorem pat1 (H : List Ent) (s : List UInt8) (ws : List (List UInt8)) (hl : s.length ≤ 100000) (hT : splitR 32 s = [116, 105, 99, 107] :: ws) (hn : ws.length ≠ 1)  :
    RunsTo Tryd.prog 30 [.code (bodyOf Tryd.f30)] (envOf [vS s] Tryd.f30.ntmps) (Sx.look (paX H ++ ([]))) 80 (paV (ev0) 4) (Sx.look (evP (ev0))) 400 := by
  refine runs_last basePB (Sx.Ends.of (pat1_p0 H s ws) ⟨?oo, ?rr⟩) (by kernel_rfl) rfl (gtL (by decide)) (by decide)
  case oo =>
    refine (okc ?_ (okc ?_ (okc ?_ (okc ?_ (okc ?_ (okc ?_ (okc ?_ (okc ?_ okn))))))))
    all_goals ((try simp only [List.headD_cons, hT]); first | done | rfl | omega | assumption | exact ⟨rfl, rfl, rfl, hl⟩ | (simp (disch := omega) only [SS, List.headD_cons, hT, List.length_cons, List.length_nil]; first | done | omega | assumption) | (simp_all; done) | (simp_all; omega))
  case rr =>
    (try simp only [List.headD_cons, hT])
    repeat' apply And.intro
    all_goals first | exact True.intro | with_reducible rfl | rfl | omega | (intro k hk; exact absurd hk (Nat.not_lt_zero _)) | (simp_all [ev0]; done) | (intros; rfl)

theorem pat2_p0 (H : List Ent) (s : List UInt8) (x : List UInt8) :
    isEnd (evTill Tryd.prog sumsPB 500 (99) 900 30 [.code (bodyOf Tryd.f30)] (envOf [vS s] Tryd.f30.ntmps) (paX H ++ ([])) ⟨[.s true, .s true, .s true, .s true, .s false, .s false, .s true, .s false, .s true, .s true, .s true, .s true, .s true], 80⟩) (endP ([((141 : Nat), Rn.nil (1 : Nat)), ((142 : Nat), Rn.nil (1 : Nat))]) (paV (ev0) 4) (evP (ev0)) 400) =
    (OkL [(decide ([(32 : UInt8)] = [#[(32 : UInt8)].toList.headD (0 : UInt8)]) && (decide ((0 : Int) = (0 : Int)) && (decide ((-1 : Int) = (-1 : Int)) && decide (s.length ≤ (1000000 : Nat)))), true), (decide ((0 : Int) ≤ (0 : Int) ∧ (0 : Int) < (↑(splitR (#[(32 : UInt8)].toList.headD (0 : UInt8)) s).length : Int)), true), (Nat.blt (0 : Nat) (splitR (#[(32 : UInt8)].toList.headD (0 : UInt8)) s).length, true), (Nat.blt (0 : Nat) (splitR (#[(32 : UInt8)].toList.headD (0 : UInt8)) s).length, true), ((splitR (#[(32 : UInt8)].toList.headD (0 : UInt8)) s).getD (0 : Nat) [] == [(98 : UInt8), (121 : UInt8), (116 : UInt8), (101 : UInt8), (115 : UInt8)], false), ((splitR (#[(32 : UInt8)].toList.headD (0 : UInt8)) s).getD (0 : Nat) [] == [(103 : UInt8), (114 : UInt8), (97 : UInt8), (110 : UInt8), (116 : UInt8)], false), ((splitR (#[(32 : UInt8)].toList.headD (0 : UInt8)) s).getD (0 : Nat) [] == [(116 : UInt8), (105 : UInt8), (99 : UInt8), (107 : UInt8)], true), ((↑(splitR (#[(32 : UInt8)].toList.headD (0 : UInt8)) s).length : Int) != (2 : Int), false), (decide ((0 : Int) ≤ (1 : Int) ∧ (1 : Int) < (↑(splitR (#[(32 : UInt8)].toList.headD (0 : UInt8)) s).length : Int)), true), (Nat.blt (1 : Nat) (splitR (#[(32 : UInt8)].toList.headD (0 : UInt8)) s).length, true), (Nat.blt (1 : Nat) (splitR (#[(32 : UInt8)].toList.headD (0 : UInt8)) s).length, true), (decide (((splitR (#[(32 : UInt8)].toList.headD (0 : UInt8)) s).getD (1 : Nat) []).length ≤ (1000000 : Nat)), true), (!numOK ((splitR (#[(32 : UInt8)].toList.headD (0 : UInt8)) s).getD (1 : Nat) []), true)] ∧ (((0 : Int) = (0 : Int) ∧ (0 : Int) = (0 : Int) ∧ (0 : Nat) = (0 : Nat) ∧ (0 : Nat) = (0 : Nat)) ∧ ((0 : Nat) = (0 : Nat) ∧ true = true) ∧ True) ∧ (0 : Nat) = (0 : Nat) ∧ (0 : Nat) = (0 : Nat)) := by kernel_rfl

set_option maxHeartbeats 4000000 in
theorem pat2 (H : List Ent) (s : List UInt8) (x : List UInt8) (hl : s.length ≤ 100000) (hT : splitR 32 s = [[116, 105, 99, 107], x]) (hx : numOK x = false) (hxl : x.length ≤ 100000)  :
    RunsTo Tryd.prog 30 [.code (bodyOf Tryd.f30)] (envOf [vS s] Tryd.f30.ntmps) (Sx.look (paX H ++ ([]))) 80 (paV (ev0) 4) (Sx.look (evP (ev0))) 400 := by
  refine runs_last basePB (Sx.Ends.of (pat2_p0 H s x) ⟨?oo, ?rr⟩) (by kernel_rfl) rfl (gtL (by decide)) (by decide)
  case oo =>
    refine (okc ?_ (okc ?_ (okc ?_ (okc ?_ (okc ?_ (okc ?_ (okc ?_ (okc ?_ (okc ?_ (okc ?_ (okc ?_ (okc ?_ (okc ?_ okn)))))))))))))
    all_goals ((try simp only [List.headD_cons, hT]); first | done | rfl | omega | assumption | exact ⟨rfl, rfl, rfl, hl⟩ | (simp (disch := omega) only [SS, List.headD_cons, hT, List.length_cons, List.length_nil]; first | done | omega | assumption) | (simp_all; done) | (simp_all; omega))
  case rr =>
    (try simp only [List.headD_cons, hT])
    repeat' apply And.intro
    all_goals first | exact True.intro | with_reducible rfl | rfl | omega | (intro k hk; exact absurd hk (Nat.not_lt_zero _)) | (simp_all [ev0]; done) | (intros; rfl)

theorem pat3_p0 (H : List Ent) (s : List UInt8) (x b : List UInt8) (m : List Int) :
    isEnd (evTill Tryd.prog sumsPB 500 (99) 900 30 [.code (bodyOf Tryd.f30)] (envOf [vS s] Tryd.f30.ntmps) (paX H ++ ([])) ⟨[.s true, .s true, .s true, .s true, .s false, .s false, .s true, .s false, .s true, .s true, .s true, .s true, .s false, .f, .f, .t, .t, .s true, .f], 80⟩) (endP ([((141 : Nat), Rn.nil (1 : Nat)), ((142 : Nat), Rn.nil (1 : Nat))]) (paV (⟨3, numV x, b, m⟩) 16) (evP (⟨3, numV x, b, m⟩)) 400) =
    (OkL [(decide ([(32 : UInt8)] = [#[(32 : UInt8)].toList.headD (0 : UInt8)]) && (decide ((0 : Int) = (0 : Int)) && (decide ((-1 : Int) = (-1 : Int)) && decide (s.length ≤ (1000000 : Nat)))), true), (decide ((0 : Int) ≤ (0 : Int) ∧ (0 : Int) < (↑(splitR (#[(32 : UInt8)].toList.headD (0 : UInt8)) s).length : Int)), true), (Nat.blt (0 : Nat) (splitR (#[(32 : UInt8)].toList.headD (0 : UInt8)) s).length, true), (Nat.blt (0 : Nat) (splitR (#[(32 : UInt8)].toList.headD (0 : UInt8)) s).length, true), ((splitR (#[(32 : UInt8)].toList.headD (0 : UInt8)) s).getD (0 : Nat) [] == [(98 : UInt8), (121 : UInt8), (116 : UInt8), (101 : UInt8), (115 : UInt8)], false), ((splitR (#[(32 : UInt8)].toList.headD (0 : UInt8)) s).getD (0 : Nat) [] == [(103 : UInt8), (114 : UInt8), (97 : UInt8), (110 : UInt8), (116 : UInt8)], false), ((splitR (#[(32 : UInt8)].toList.headD (0 : UInt8)) s).getD (0 : Nat) [] == [(116 : UInt8), (105 : UInt8), (99 : UInt8), (107 : UInt8)], true), ((↑(splitR (#[(32 : UInt8)].toList.headD (0 : UInt8)) s).length : Int) != (2 : Int), false), (decide ((0 : Int) ≤ (1 : Int) ∧ (1 : Int) < (↑(splitR (#[(32 : UInt8)].toList.headD (0 : UInt8)) s).length : Int)), true), (Nat.blt (1 : Nat) (splitR (#[(32 : UInt8)].toList.headD (0 : UInt8)) s).length, true), (Nat.blt (1 : Nat) (splitR (#[(32 : UInt8)].toList.headD (0 : UInt8)) s).length, true), (decide (((splitR (#[(32 : UInt8)].toList.headD (0 : UInt8)) s).getD (1 : Nat) []).length ≤ (1000000 : Nat)), true), (!numOK ((splitR (#[(32 : UInt8)].toList.headD (0 : UInt8)) s).getD (1 : Nat) []), false), (decide (numV ((splitR (#[(32 : UInt8)].toList.headD (0 : UInt8)) s).getD (1 : Nat) []) ≤ (9999 : Int)), true)] ∧ (((3 : Int) = (3 : Int) ∧ numV x = numV ((splitR (#[(32 : UInt8)].toList.headD (0 : UInt8)) s).getD (1 : Nat) []) ∧ b.length = (0 : Nat) ∧ m.length = (0 : Nat)) ∧ (none : Option Nat) = none ∧ True) ∧ b.length = (0 : Nat) ∧ m.length = (0 : Nat)) := by kernel_rfl

set_option maxHeartbeats 4000000 in
theorem pat3 (H : List Ent) (s : List UInt8) (x b : List UInt8) (m : List Int) (hl : s.length ≤ 100000) (hT : splitR 32 s = [[116, 105, 99, 107], x]) (hb : b = []) (hm : m = []) (hx : numOK x = true) (hxl : x.length ≤ 100000) (h0 : 0 ≤ numV x) (h9 : numV x ≤ 9999)  :
    RunsTo Tryd.prog 30 [.code (bodyOf Tryd.f30)] (envOf [vS s] Tryd.f30.ntmps) (Sx.look (paX H ++ ([]))) 80 (paV (⟨3, numV x, b, m⟩) 16) (Sx.look (evP (⟨3, numV x, b, m⟩))) 400 := by
  refine runs_last basePB (Sx.Ends.of (pat3_p0 H s x b m) ⟨?oo, ?rr⟩) (by kernel_rfl) rfl (gtL (by decide)) (by decide)
  case oo =>
    refine (okc ?_ (okc ?_ (okc ?_ (okc ?_ (okc ?_ (okc ?_ (okc ?_ (okc ?_ (okc ?_ (okc ?_ (okc ?_ (okc ?_ (okc ?_ (okc ?_ okn))))))))))))))
    all_goals ((try simp only [List.headD_cons, hT]); first | done | rfl | omega | assumption | exact ⟨rfl, rfl, rfl, hl⟩ | (simp (disch := omega) only [SS, List.headD_cons, hT, List.length_cons, List.length_nil]; first | done | omega | assumption) | (simp_all; done) | (simp_all; omega))
  case rr =>
    (try simp only [List.headD_cons, hT])
    repeat' apply And.intro
    all_goals first | exact True.intro | with_reducible rfl | rfl | omega | (intro k hk; exact absurd hk (Nat.not_lt_zero _)) | (simp_all [ev0]; done) | (intros; rfl)

theorem pac1_p0 (H : List Ent) (s : List UInt8) (ws : List (List UInt8)) :
    isEnd (evTill Tryd.prog sumsPB 500 (99) 900 30 [.code (bodyOf Tryd.f30)] (envOf [vS s] Tryd.f30.ntmps) (paX H ++ ([])) ⟨[.s true, .s true, .s true, .s true, .s false, .s false, .s false, .s true, .s true], 80⟩) (endP ([((141 : Nat), Rn.nil (1 : Nat)), ((142 : Nat), Rn.nil (1 : Nat))]) (paV (ev0) 4) (evP (ev0)) 400) =
    (OkL [(decide ([(32 : UInt8)] = [#[(32 : UInt8)].toList.headD (0 : UInt8)]) && (decide ((0 : Int) = (0 : Int)) && (decide ((-1 : Int) = (-1 : Int)) && decide (s.length ≤ (1000000 : Nat)))), true), (decide ((0 : Int) ≤ (0 : Int) ∧ (0 : Int) < (↑(splitR (#[(32 : UInt8)].toList.headD (0 : UInt8)) s).length : Int)), true), (Nat.blt (0 : Nat) (splitR (#[(32 : UInt8)].toList.headD (0 : UInt8)) s).length, true), (Nat.blt (0 : Nat) (splitR (#[(32 : UInt8)].toList.headD (0 : UInt8)) s).length, true), ((splitR (#[(32 : UInt8)].toList.headD (0 : UInt8)) s).getD (0 : Nat) [] == [(98 : UInt8), (121 : UInt8), (116 : UInt8), (101 : UInt8), (115 : UInt8)], false), ((splitR (#[(32 : UInt8)].toList.headD (0 : UInt8)) s).getD (0 : Nat) [] == [(103 : UInt8), (114 : UInt8), (97 : UInt8), (110 : UInt8), (116 : UInt8)], false), ((splitR (#[(32 : UInt8)].toList.headD (0 : UInt8)) s).getD (0 : Nat) [] == [(116 : UInt8), (105 : UInt8), (99 : UInt8), (107 : UInt8)], false), ((splitR (#[(32 : UInt8)].toList.headD (0 : UInt8)) s).getD (0 : Nat) [] == [(99 : UInt8), (108 : UInt8), (111 : UInt8), (115 : UInt8), (101 : UInt8)], true), (!(↑(splitR (#[(32 : UInt8)].toList.headD (0 : UInt8)) s).length : Int) == (1 : Int), true)] ∧ (((0 : Int) = (0 : Int) ∧ (0 : Int) = (0 : Int) ∧ (0 : Nat) = (0 : Nat) ∧ (0 : Nat) = (0 : Nat)) ∧ ((0 : Nat) = (0 : Nat) ∧ true = true) ∧ True) ∧ (0 : Nat) = (0 : Nat) ∧ (0 : Nat) = (0 : Nat)) := by kernel_rfl

set_option maxHeartbeats 4000000 in
theorem pac1 (H : List Ent) (s : List UInt8) (ws : List (List UInt8)) (hl : s.length ≤ 100000) (hT : splitR 32 s = [99, 108, 111, 115, 101] :: ws) (hn : ws.length ≠ 0)  :
    RunsTo Tryd.prog 30 [.code (bodyOf Tryd.f30)] (envOf [vS s] Tryd.f30.ntmps) (Sx.look (paX H ++ ([]))) 80 (paV (ev0) 4) (Sx.look (evP (ev0))) 400 := by
  refine runs_last basePB (Sx.Ends.of (pac1_p0 H s ws) ⟨?oo, ?rr⟩) (by kernel_rfl) rfl (gtL (by decide)) (by decide)
  case oo =>
    refine (okc ?_ (okc ?_ (okc ?_ (okc ?_ (okc ?_ (okc ?_ (okc ?_ (okc ?_ (okc ?_ okn)))))))))
    all_goals ((try simp only [List.headD_cons, hT]); first | done | rfl | omega | assumption | exact ⟨rfl, rfl, rfl, hl⟩ | (simp (disch := omega) only [SS, List.headD_cons, hT, List.length_cons, List.length_nil]; first | done | omega | assumption) | (simp_all; done) | (simp_all; omega))
  case rr =>
    (try simp only [List.headD_cons, hT])
    repeat' apply And.intro
    all_goals first | exact True.intro | with_reducible rfl | rfl | omega | (intro k hk; exact absurd hk (Nat.not_lt_zero _)) | (simp_all [ev0]; done) | (intros; rfl)

theorem pac2_p0 (H : List Ent) (s : List UInt8) (b : List UInt8) (m : List Int) :
    isEnd (evTill Tryd.prog sumsPB 500 (99) 900 30 [.code (bodyOf Tryd.f30)] (envOf [vS s] Tryd.f30.ntmps) (paX H ++ ([])) ⟨[.s true, .s true, .s true, .s true, .s false, .s false, .s false, .s true, .s false, .f, .f, .f, .t, .t, .f], 80⟩) (endP ([((141 : Nat), Rn.nil (1 : Nat)), ((142 : Nat), Rn.nil (1 : Nat))]) (paV (⟨4, 0, b, m⟩) 16) (evP (⟨4, 0, b, m⟩)) 400) =
    (OkL [(decide ([(32 : UInt8)] = [#[(32 : UInt8)].toList.headD (0 : UInt8)]) && (decide ((0 : Int) = (0 : Int)) && (decide ((-1 : Int) = (-1 : Int)) && decide (s.length ≤ (1000000 : Nat)))), true), (decide ((0 : Int) ≤ (0 : Int) ∧ (0 : Int) < (↑(splitR (#[(32 : UInt8)].toList.headD (0 : UInt8)) s).length : Int)), true), (Nat.blt (0 : Nat) (splitR (#[(32 : UInt8)].toList.headD (0 : UInt8)) s).length, true), (Nat.blt (0 : Nat) (splitR (#[(32 : UInt8)].toList.headD (0 : UInt8)) s).length, true), ((splitR (#[(32 : UInt8)].toList.headD (0 : UInt8)) s).getD (0 : Nat) [] == [(98 : UInt8), (121 : UInt8), (116 : UInt8), (101 : UInt8), (115 : UInt8)], false), ((splitR (#[(32 : UInt8)].toList.headD (0 : UInt8)) s).getD (0 : Nat) [] == [(103 : UInt8), (114 : UInt8), (97 : UInt8), (110 : UInt8), (116 : UInt8)], false), ((splitR (#[(32 : UInt8)].toList.headD (0 : UInt8)) s).getD (0 : Nat) [] == [(116 : UInt8), (105 : UInt8), (99 : UInt8), (107 : UInt8)], false), ((splitR (#[(32 : UInt8)].toList.headD (0 : UInt8)) s).getD (0 : Nat) [] == [(99 : UInt8), (108 : UInt8), (111 : UInt8), (115 : UInt8), (101 : UInt8)], true), (!(↑(splitR (#[(32 : UInt8)].toList.headD (0 : UInt8)) s).length : Int) == (1 : Int), false)] ∧ (((4 : Int) = (4 : Int) ∧ (0 : Int) = (0 : Int) ∧ b.length = (0 : Nat) ∧ m.length = (0 : Nat)) ∧ (none : Option Nat) = none ∧ True) ∧ b.length = (0 : Nat) ∧ m.length = (0 : Nat)) := by kernel_rfl

set_option maxHeartbeats 4000000 in
theorem pac2 (H : List Ent) (s : List UInt8) (b : List UInt8) (m : List Int) (hl : s.length ≤ 100000) (hT : splitR 32 s = [[99, 108, 111, 115, 101]]) (hb : b = []) (hm : m = [])  :
    RunsTo Tryd.prog 30 [.code (bodyOf Tryd.f30)] (envOf [vS s] Tryd.f30.ntmps) (Sx.look (paX H ++ ([]))) 80 (paV (⟨4, 0, b, m⟩) 16) (Sx.look (evP (⟨4, 0, b, m⟩))) 400 := by
  refine runs_last basePB (Sx.Ends.of (pac2_p0 H s b m) ⟨?oo, ?rr⟩) (by kernel_rfl) rfl (gtL (by decide)) (by decide)
  case oo =>
    refine (okc ?_ (okc ?_ (okc ?_ (okc ?_ (okc ?_ (okc ?_ (okc ?_ (okc ?_ (okc ?_ okn)))))))))
    all_goals ((try simp only [List.headD_cons, hT]); first | done | rfl | omega | assumption | exact ⟨rfl, rfl, rfl, hl⟩ | (simp (disch := omega) only [SS, List.headD_cons, hT, List.length_cons, List.length_nil]; first | done | omega | assumption) | (simp_all; done) | (simp_all; omega))
  case rr =>
    (try simp only [List.headD_cons, hT])
    repeat' apply And.intro
    all_goals first | exact True.intro | with_reducible rfl | rfl | omega | (intro k hk; exact absurd hk (Nat.not_lt_zero _)) | (simp_all [ev0]; done) | (intros; rfl)

theorem pab1_p0 (H : List Ent) (s : List UInt8) (ws : List (List UInt8)) :
    isEnd (evTill Tryd.prog sumsPB 500 (99) 900 30 [.code (bodyOf Tryd.f30)] (envOf [vS s] Tryd.f30.ntmps) (paX H ++ ([])) ⟨[.s true, .s true, .s true, .s true, .s true, .s false, .s false, .t], 80⟩) (endP ([((141 : Nat), Rn.nil (1 : Nat)), ((142 : Nat), Rn.nil (1 : Nat))]) (paV (ev0) 4) (evP (ev0)) 400) =
    (OkL [(decide ([(32 : UInt8)] = [#[(32 : UInt8)].toList.headD (0 : UInt8)]) && (decide ((0 : Int) = (0 : Int)) && (decide ((-1 : Int) = (-1 : Int)) && decide (s.length ≤ (1000000 : Nat)))), true), (decide ((0 : Int) ≤ (0 : Int) ∧ (0 : Int) < (↑(splitR (#[(32 : UInt8)].toList.headD (0 : UInt8)) s).length : Int)), true), (Nat.blt (0 : Nat) (splitR (#[(32 : UInt8)].toList.headD (0 : UInt8)) s).length, true), (Nat.blt (0 : Nat) (splitR (#[(32 : UInt8)].toList.headD (0 : UInt8)) s).length, true), ((splitR (#[(32 : UInt8)].toList.headD (0 : UInt8)) s).getD (0 : Nat) [] == [(98 : UInt8), (121 : UInt8), (116 : UInt8), (101 : UInt8), (115 : UInt8)], true), ((↑(splitR (#[(32 : UInt8)].toList.headD (0 : UInt8)) s).length : Int) == (2 : Int), false), ((↑(splitR (#[(32 : UInt8)].toList.headD (0 : UInt8)) s).length : Int) == (4 : Int), false)] ∧ (((0 : Int) = (0 : Int) ∧ (0 : Int) = (0 : Int) ∧ (0 : Nat) = (0 : Nat) ∧ (0 : Nat) = (0 : Nat)) ∧ ((0 : Nat) = (0 : Nat) ∧ true = true) ∧ True) ∧ (0 : Nat) = (0 : Nat) ∧ (0 : Nat) = (0 : Nat)) := by kernel_rfl

set_option maxHeartbeats 4000000 in
theorem pab1 (H : List Ent) (s : List UInt8) (ws : List (List UInt8)) (hl : s.length ≤ 100000) (hT : splitR 32 s = [98, 121, 116, 101, 115] :: ws) (hn : ws.length ≠ 1) (hm : ws.length ≠ 3)  :
    RunsTo Tryd.prog 30 [.code (bodyOf Tryd.f30)] (envOf [vS s] Tryd.f30.ntmps) (Sx.look (paX H ++ ([]))) 80 (paV (ev0) 4) (Sx.look (evP (ev0))) 400 := by
  refine runs_last basePB (Sx.Ends.of (pab1_p0 H s ws) ⟨?oo, ?rr⟩) (by kernel_rfl) rfl (gtL (by decide)) (by decide)
  case oo =>
    refine (okc ?_ (okc ?_ (okc ?_ (okc ?_ (okc ?_ (okc ?_ (okc ?_ okn)))))))
    all_goals ((try simp only [List.headD_cons, hT]); first | done | rfl | omega | assumption | exact ⟨rfl, rfl, rfl, hl⟩ | (simp (disch := omega) only [SS, List.headD_cons, hT, List.length_cons, List.length_nil]; first | done | omega | assumption) | (simp_all; done) | (simp_all; omega))
  case rr =>
    (try simp only [List.headD_cons, hT])
    repeat' apply And.intro
    all_goals first | exact True.intro | with_reducible rfl | rfl | omega | (intro k hk; exact absurd hk (Nat.not_lt_zero _)) | (simp_all [ev0]; done) | (intros; rfl)

theorem pab5_p0 (H : List Ent) (s : List UInt8) (ws : List (List UInt8)) :
    isEnd (evTill Tryd.prog sumsPB 500 (99) 900 30 [.code (bodyOf Tryd.f30)] (envOf [vS s] Tryd.f30.ntmps) (paX H ++ ([])) ⟨[.s true, .s true, .s true, .s true, .s true, .s false, .s true, .s true, .s true, .s true, .s true, .t], 80⟩) (endP ([((141 : Nat), Rn.nil (1 : Nat)), ((142 : Nat), Rn.nil (1 : Nat))]) (paV (ev0) 4) (evP (ev0)) 400) =
    (OkL [(decide ([(32 : UInt8)] = [#[(32 : UInt8)].toList.headD (0 : UInt8)]) && (decide ((0 : Int) = (0 : Int)) && (decide ((-1 : Int) = (-1 : Int)) && decide (s.length ≤ (1000000 : Nat)))), true), (decide ((0 : Int) ≤ (0 : Int) ∧ (0 : Int) < (↑(splitR (#[(32 : UInt8)].toList.headD (0 : UInt8)) s).length : Int)), true), (Nat.blt (0 : Nat) (splitR (#[(32 : UInt8)].toList.headD (0 : UInt8)) s).length, true), (Nat.blt (0 : Nat) (splitR (#[(32 : UInt8)].toList.headD (0 : UInt8)) s).length, true), ((splitR (#[(32 : UInt8)].toList.headD (0 : UInt8)) s).getD (0 : Nat) [] == [(98 : UInt8), (121 : UInt8), (116 : UInt8), (101 : UInt8), (115 : UInt8)], true), ((↑(splitR (#[(32 : UInt8)].toList.headD (0 : UInt8)) s).length : Int) == (2 : Int), false), ((↑(splitR (#[(32 : UInt8)].toList.headD (0 : UInt8)) s).length : Int) == (4 : Int), true), (decide ((0 : Int) ≤ (2 : Int) ∧ (2 : Int) < (↑(splitR (#[(32 : UInt8)].toList.headD (0 : UInt8)) s).length : Int)), true), (Nat.blt (2 : Nat) (splitR (#[(32 : UInt8)].toList.headD (0 : UInt8)) s).length, true), (Nat.blt (2 : Nat) (splitR (#[(32 : UInt8)].toList.headD (0 : UInt8)) s).length, true), (!(splitR (#[(32 : UInt8)].toList.headD (0 : UInt8)) s).getD (2 : Nat) [] == [(109 : UInt8), (97 : UInt8), (114 : UInt8), (107 : UInt8), (115 : UInt8)], true)] ∧ (((0 : Int) = (0 : Int) ∧ (0 : Int) = (0 : Int) ∧ (0 : Nat) = (0 : Nat) ∧ (0 : Nat) = (0 : Nat)) ∧ ((0 : Nat) = (0 : Nat) ∧ true = true) ∧ True) ∧ (0 : Nat) = (0 : Nat) ∧ (0 : Nat) = (0 : Nat)) := by kernel_rfl

set_option maxHeartbeats 4000000 in
theorem pab5 (H : List Ent) (s : List UInt8) (ws : List (List UInt8)) (hl : s.length ≤ 100000) (hT : splitR 32 s = [98, 121, 116, 101, 115] :: ws) (hn : ws.length = 3) (hm : ws.getD 1 [] ≠ [109, 97, 114, 107, 115])  :
    RunsTo Tryd.prog 30 [.code (bodyOf Tryd.f30)] (envOf [vS s] Tryd.f30.ntmps) (Sx.look (paX H ++ ([]))) 80 (paV (ev0) 4) (Sx.look (evP (ev0))) 400 := by
  refine runs_last basePB (Sx.Ends.of (pab5_p0 H s ws) ⟨?oo, ?rr⟩) (by kernel_rfl) rfl (gtL (by decide)) (by decide)
  case oo =>
    refine (okc ?_ (okc ?_ (okc ?_ (okc ?_ (okc ?_ (okc ?_ (okc ?_ (okc ?_ (okc ?_ (okc ?_ (okc ?_ okn)))))))))))
    all_goals ((try simp only [List.headD_cons, hT]); first | done | rfl | omega | assumption | exact ⟨rfl, rfl, rfl, hl⟩ | (simp (disch := omega) only [SS, List.headD_cons, hT, List.length_cons, List.length_nil]; first | done | omega | assumption) | (simp_all; done) | (simp_all; omega))
  case rr =>
    (try simp only [List.headD_cons, hT])
    repeat' apply And.intro
    all_goals first | exact True.intro | with_reducible rfl | rfl | omega | (intro k hk; exact absurd hk (Nat.not_lt_zero _)) | (simp_all [ev0]; done) | (intros; rfl)

theorem pab2_p0 (H : List Ent) (s : List UInt8) (x : List UInt8) :
    isEnd (evTill Tryd.prog sumsPB 500 (99) 900 30 [.code (bodyOf Tryd.f30)] (envOf [vS s] Tryd.f30.ntmps) (paX H ++ ([])) ⟨[.s true, .s true, .s true, .s true, .s true, .s true, .s true, .s true, .s true, .s true, .s false, .s true], 80⟩) (endP ([((141 : Nat), Rn.nil (1 : Nat)), ((142 : Nat), Rn.nil (1 : Nat))]) (paV (ev0) 4) (evP (ev0)) 400) =
    (OkL [(decide ([(32 : UInt8)] = [#[(32 : UInt8)].toList.headD (0 : UInt8)]) && (decide ((0 : Int) = (0 : Int)) && (decide ((-1 : Int) = (-1 : Int)) && decide (s.length ≤ (1000000 : Nat)))), true), (decide ((0 : Int) ≤ (0 : Int) ∧ (0 : Int) < (↑(splitR (#[(32 : UInt8)].toList.headD (0 : UInt8)) s).length : Int)), true), (Nat.blt (0 : Nat) (splitR (#[(32 : UInt8)].toList.headD (0 : UInt8)) s).length, true), (Nat.blt (0 : Nat) (splitR (#[(32 : UInt8)].toList.headD (0 : UInt8)) s).length, true), ((splitR (#[(32 : UInt8)].toList.headD (0 : UInt8)) s).getD (0 : Nat) [] == [(98 : UInt8), (121 : UInt8), (116 : UInt8), (101 : UInt8), (115 : UInt8)], true), ((↑(splitR (#[(32 : UInt8)].toList.headD (0 : UInt8)) s).length : Int) == (2 : Int), true), (decide ((0 : Int) ≤ (1 : Int) ∧ (1 : Int) < (↑(splitR (#[(32 : UInt8)].toList.headD (0 : UInt8)) s).length : Int)), true), (Nat.blt (1 : Nat) (splitR (#[(32 : UInt8)].toList.headD (0 : UInt8)) s).length, true), (Nat.blt (1 : Nat) (splitR (#[(32 : UInt8)].toList.headD (0 : UInt8)) s).length, true), (decide (((splitR (#[(32 : UInt8)].toList.headD (0 : UInt8)) s).getD (1 : Nat) []).length ≤ (1000000 : Nat)), true), (readK ((splitR (#[(32 : UInt8)].toList.headD (0 : UInt8)) s).getD (1 : Nat) []), false), (!readK ((splitR (#[(32 : UInt8)].toList.headD (0 : UInt8)) s).getD (1 : Nat) []), true)] ∧ (((0 : Int) = (0 : Int) ∧ (0 : Int) = (0 : Int) ∧ (0 : Nat) = (0 : Nat) ∧ (0 : Nat) = (0 : Nat)) ∧ ((0 : Nat) = (0 : Nat) ∧ true = true) ∧ True) ∧ (0 : Nat) = (0 : Nat) ∧ (0 : Nat) = (0 : Nat)) := by kernel_rfl

set_option maxHeartbeats 4000000 in
theorem pab2 (H : List Ent) (s : List UInt8) (x : List UInt8) (hl : s.length ≤ 100000) (hT : splitR 32 s = [[98, 121, 116, 101, 115], x]) (hx : readK x = false) (hxl : x.length ≤ 100000)  :
    RunsTo Tryd.prog 30 [.code (bodyOf Tryd.f30)] (envOf [vS s] Tryd.f30.ntmps) (Sx.look (paX H ++ ([]))) 80 (paV (ev0) 4) (Sx.look (evP (ev0))) 400 := by
  refine runs_last basePB (Sx.Ends.of (pab2_p0 H s x) ⟨?oo, ?rr⟩) (by kernel_rfl) rfl (gtL (by decide)) (by decide)
  case oo =>
    refine (okc ?_ (okc ?_ (okc ?_ (okc ?_ (okc ?_ (okc ?_ (okc ?_ (okc ?_ (okc ?_ (okc ?_ (okc ?_ (okc ?_ okn))))))))))))
    all_goals ((try simp only [List.headD_cons, hT]); first | done | rfl | omega | assumption | exact ⟨rfl, rfl, rfl, hl⟩ | (simp (disch := omega) only [SS, List.headD_cons, hT, List.length_cons, List.length_nil]; first | done | omega | assumption) | (simp_all; done) | (simp_all; omega))
  case rr =>
    (try simp only [List.headD_cons, hT])
    repeat' apply And.intro
    all_goals first | exact True.intro | with_reducible rfl | rfl | omega | (intro k hk; exact absurd hk (Nat.not_lt_zero _)) | (simp_all [ev0]; done) | (intros; rfl)

theorem pab3_p0 (H : List Ent) (s : List UInt8) (x : List UInt8) (m : List Int) :
    isEnd (evTill Tryd.prog sumsPB 500 (99) 900 30 [.code (bodyOf Tryd.f30)] (envOf [vS s] Tryd.f30.ntmps) (paX H ++ ([])) ⟨[.s true, .s true, .s true, .s true, .s true, .s true, .s true, .s true, .s true, .s true, .s true, .s false, .s false, .t, .t, .s true, .f, .f], 80⟩) (endP ([((141 : Nat), Rn.to (210 : Nat)), ((142 : Nat), Rn.nil (1 : Nat))]) (paV (⟨1, 0, readV x, m⟩) 16) (evP (⟨1, 0, readV x, m⟩)) 400) =
    (OkL [(decide ([(32 : UInt8)] = [#[(32 : UInt8)].toList.headD (0 : UInt8)]) && (decide ((0 : Int) = (0 : Int)) && (decide ((-1 : Int) = (-1 : Int)) && decide (s.length ≤ (1000000 : Nat)))), true), (decide ((0 : Int) ≤ (0 : Int) ∧ (0 : Int) < (↑(splitR (#[(32 : UInt8)].toList.headD (0 : UInt8)) s).length : Int)), true), (Nat.blt (0 : Nat) (splitR (#[(32 : UInt8)].toList.headD (0 : UInt8)) s).length, true), (Nat.blt (0 : Nat) (splitR (#[(32 : UInt8)].toList.headD (0 : UInt8)) s).length, true), ((splitR (#[(32 : UInt8)].toList.headD (0 : UInt8)) s).getD (0 : Nat) [] == [(98 : UInt8), (121 : UInt8), (116 : UInt8), (101 : UInt8), (115 : UInt8)], true), ((↑(splitR (#[(32 : UInt8)].toList.headD (0 : UInt8)) s).length : Int) == (2 : Int), true), (decide ((0 : Int) ≤ (1 : Int) ∧ (1 : Int) < (↑(splitR (#[(32 : UInt8)].toList.headD (0 : UInt8)) s).length : Int)), true), (Nat.blt (1 : Nat) (splitR (#[(32 : UInt8)].toList.headD (0 : UInt8)) s).length, true), (Nat.blt (1 : Nat) (splitR (#[(32 : UInt8)].toList.headD (0 : UInt8)) s).length, true), (decide (((splitR (#[(32 : UInt8)].toList.headD (0 : UInt8)) s).getD (1 : Nat) []).length ≤ (1000000 : Nat)), true), (readK ((splitR (#[(32 : UInt8)].toList.headD (0 : UInt8)) s).getD (1 : Nat) []), true), ((↑(splitR (#[(32 : UInt8)].toList.headD (0 : UInt8)) s).length : Int) == (4 : Int), false), (!readK ((splitR (#[(32 : UInt8)].toList.headD (0 : UInt8)) s).getD (1 : Nat) []), false), (decide ((↑(readV ((splitR (#[(32 : UInt8)].toList.headD (0 : UInt8)) s).getD (1 : Nat) [])).length : Int) ≤ (1024 : Int)), true)] ∧ (((1 : Int) = (1 : Int) ∧ (0 : Int) = (0 : Int) ∧ ((0 : Nat) = (0 : Nat) ∧ (readV x).length = (readV ((splitR (#[(32 : UInt8)].toList.headD (0 : UInt8)) s).getD (1 : Nat) [])).length) ∧ m.length = (0 : Nat)) ∧ (none : Option Nat) = none ∧ True) ∧ ((readV x).length = (readV ((splitR (#[(32 : UInt8)].toList.headD (0 : UInt8)) s).getD (1 : Nat) [])).length ∧ ∀ (i : Nat), i < (readV x).length → (↑((readV x).getD i (0 : UInt8)).toNat : Int) = (↑((readV ((splitR (#[(32 : UInt8)].toList.headD (0 : UInt8)) s).getD (1 : Nat) [])).getD i (0 : UInt8)).toNat : Int)) ∧ m.length = (0 : Nat)) := by kernel_rfl

set_option maxHeartbeats 4000000 in
theorem pab3 (H : List Ent) (s : List UInt8) (x : List UInt8) (m : List Int) (hl : s.length ≤ 100000) (hT : splitR 32 s = [[98, 121, 116, 101, 115], x]) (hm : m = []) (hx : readK x = true) (hxl : x.length ≤ 100000) (hr : (readV x).length ≤ 1024)  :
    RunsTo Tryd.prog 30 [.code (bodyOf Tryd.f30)] (envOf [vS s] Tryd.f30.ntmps) (Sx.look (paX H ++ ([]))) 80 (paV (⟨1, 0, readV x, m⟩) 16) (Sx.look (evP (⟨1, 0, readV x, m⟩))) 400 := by
  refine runs_last basePB (Sx.Ends.of (pab3_p0 H s x m) ⟨?oo, ?rr⟩) (by kernel_rfl) rfl (gtL (by decide)) (by decide)
  case oo =>
    refine (okc ?_ (okc ?_ (okc ?_ (okc ?_ (okc ?_ (okc ?_ (okc ?_ (okc ?_ (okc ?_ (okc ?_ (okc ?_ (okc ?_ (okc ?_ (okc ?_ okn))))))))))))))
    all_goals ((try simp only [List.headD_cons, hT]); first | done | rfl | omega | assumption | exact ⟨rfl, rfl, rfl, hl⟩ | (simp (disch := omega) only [SS, List.headD_cons, hT, List.length_cons, List.length_nil]; first | done | omega | assumption) | (simp_all; done) | (simp_all; omega))
  case rr =>
    (try simp only [List.headD_cons, hT])
    repeat' apply And.intro
    all_goals first | exact True.intro | with_reducible rfl | rfl | omega | (intro k hk; exact absurd hk (Nat.not_lt_zero _)) | (simp_all [ev0]; done) | (intros; rfl)

theorem pab4_p0 (H : List Ent) (s : List UInt8) (x : List UInt8) :
    isEnd (evTill Tryd.prog sumsPB 500 (99) 900 30 [.code (bodyOf Tryd.f30)] (envOf [vS s] Tryd.f30.ntmps) (paX H ++ ([])) ⟨[.s true, .s true, .s true, .s true, .s true, .s true, .s true, .s true, .s true, .s true, .s true, .s false, .s false, .t, .t, .s false, .t], 80⟩) (endP ([((141 : Nat), Rn.nil (1 : Nat)), ((142 : Nat), Rn.nil (1 : Nat))]) (paV (ev0) 4) (evP (ev0)) 400) =
    (OkL [(decide ([(32 : UInt8)] = [#[(32 : UInt8)].toList.headD (0 : UInt8)]) && (decide ((0 : Int) = (0 : Int)) && (decide ((-1 : Int) = (-1 : Int)) && decide (s.length ≤ (1000000 : Nat)))), true), (decide ((0 : Int) ≤ (0 : Int) ∧ (0 : Int) < (↑(splitR (#[(32 : UInt8)].toList.headD (0 : UInt8)) s).length : Int)), true), (Nat.blt (0 : Nat) (splitR (#[(32 : UInt8)].toList.headD (0 : UInt8)) s).length, true), (Nat.blt (0 : Nat) (splitR (#[(32 : UInt8)].toList.headD (0 : UInt8)) s).length, true), ((splitR (#[(32 : UInt8)].toList.headD (0 : UInt8)) s).getD (0 : Nat) [] == [(98 : UInt8), (121 : UInt8), (116 : UInt8), (101 : UInt8), (115 : UInt8)], true), ((↑(splitR (#[(32 : UInt8)].toList.headD (0 : UInt8)) s).length : Int) == (2 : Int), true), (decide ((0 : Int) ≤ (1 : Int) ∧ (1 : Int) < (↑(splitR (#[(32 : UInt8)].toList.headD (0 : UInt8)) s).length : Int)), true), (Nat.blt (1 : Nat) (splitR (#[(32 : UInt8)].toList.headD (0 : UInt8)) s).length, true), (Nat.blt (1 : Nat) (splitR (#[(32 : UInt8)].toList.headD (0 : UInt8)) s).length, true), (decide (((splitR (#[(32 : UInt8)].toList.headD (0 : UInt8)) s).getD (1 : Nat) []).length ≤ (1000000 : Nat)), true), (readK ((splitR (#[(32 : UInt8)].toList.headD (0 : UInt8)) s).getD (1 : Nat) []), true), ((↑(splitR (#[(32 : UInt8)].toList.headD (0 : UInt8)) s).length : Int) == (4 : Int), false), (!readK ((splitR (#[(32 : UInt8)].toList.headD (0 : UInt8)) s).getD (1 : Nat) []), false), (decide ((↑(readV ((splitR (#[(32 : UInt8)].toList.headD (0 : UInt8)) s).getD (1 : Nat) [])).length : Int) ≤ (1024 : Int)), false)] ∧ (((0 : Int) = (0 : Int) ∧ (0 : Int) = (0 : Int) ∧ (0 : Nat) = (0 : Nat) ∧ (0 : Nat) = (0 : Nat)) ∧ ((0 : Nat) = (0 : Nat) ∧ true = true) ∧ True) ∧ (0 : Nat) = (0 : Nat) ∧ (0 : Nat) = (0 : Nat)) := by kernel_rfl

set_option maxHeartbeats 4000000 in
theorem pab4 (H : List Ent) (s : List UInt8) (x : List UInt8) (hl : s.length ≤ 100000) (hT : splitR 32 s = [[98, 121, 116, 101, 115], x]) (hx : readK x = true) (hxl : x.length ≤ 100000) (hr : ¬ (readV x).length ≤ 1024)  :
    RunsTo Tryd.prog 30 [.code (bodyOf Tryd.f30)] (envOf [vS s] Tryd.f30.ntmps) (Sx.look (paX H ++ ([]))) 80 (paV (ev0) 4) (Sx.look (evP (ev0))) 400 := by
  refine runs_last basePB (Sx.Ends.of (pab4_p0 H s x) ⟨?oo, ?rr⟩) (by kernel_rfl) rfl (gtL (by decide)) (by decide)
  case oo =>
    refine (okc ?_ (okc ?_ (okc ?_ (okc ?_ (okc ?_ (okc ?_ (okc ?_ (okc ?_ (okc ?_ (okc ?_ (okc ?_ (okc ?_ (okc ?_ (okc ?_ okn))))))))))))))
    all_goals ((try simp only [List.headD_cons, hT]); first | done | rfl | omega | assumption | exact ⟨rfl, rfl, rfl, hl⟩ | (simp (disch := omega) only [SS, List.headD_cons, hT, List.length_cons, List.length_nil]; first | done | omega | assumption) | (simp_all; done) | (simp_all; omega))
  case rr =>
    (try simp only [List.headD_cons, hT])
    repeat' apply And.intro
    all_goals first | exact True.intro | with_reducible rfl | rfl | omega | (intro k hk; exact absurd hk (Nat.not_lt_zero _)) | (simp_all [ev0]; done) | (intros; rfl)

theorem pam1_p0 (H : List Ent) (s : List UInt8) (x z : List UInt8) :
    isEnd (evTill Tryd.prog sumsPB 500 (99) 900 30 [.code (bodyOf Tryd.f30)] (envOf [vS s] Tryd.f30.ntmps) (paX H ++ ([])) ⟨[.s true, .s true, .s true, .s true, .s true, .s false, .s true, .s true, .s true, .s true, .s false, .s true, .s true, .s true, .s true, .s false, .s true], 80⟩) (endP ([((141 : Nat), Rn.nil (1 : Nat)), ((142 : Nat), Rn.nil (1 : Nat))]) (paV (ev0) 4) (evP (ev0)) 400) =
    (OkL [(decide ([(32 : UInt8)] = [#[(32 : UInt8)].toList.headD (0 : UInt8)]) && (decide ((0 : Int) = (0 : Int)) && (decide ((-1 : Int) = (-1 : Int)) && decide (s.length ≤ (1000000 : Nat)))), true), (decide ((0 : Int) ≤ (0 : Int) ∧ (0 : Int) < (↑(splitR (#[(32 : UInt8)].toList.headD (0 : UInt8)) s).length : Int)), true), (Nat.blt (0 : Nat) (splitR (#[(32 : UInt8)].toList.headD (0 : UInt8)) s).length, true), (Nat.blt (0 : Nat) (splitR (#[(32 : UInt8)].toList.headD (0 : UInt8)) s).length, true), ((splitR (#[(32 : UInt8)].toList.headD (0 : UInt8)) s).getD (0 : Nat) [] == [(98 : UInt8), (121 : UInt8), (116 : UInt8), (101 : UInt8), (115 : UInt8)], true), ((↑(splitR (#[(32 : UInt8)].toList.headD (0 : UInt8)) s).length : Int) == (2 : Int), false), ((↑(splitR (#[(32 : UInt8)].toList.headD (0 : UInt8)) s).length : Int) == (4 : Int), true), (decide ((0 : Int) ≤ (2 : Int) ∧ (2 : Int) < (↑(splitR (#[(32 : UInt8)].toList.headD (0 : UInt8)) s).length : Int)), true), (Nat.blt (2 : Nat) (splitR (#[(32 : UInt8)].toList.headD (0 : UInt8)) s).length, true), (Nat.blt (2 : Nat) (splitR (#[(32 : UInt8)].toList.headD (0 : UInt8)) s).length, true), (!(splitR (#[(32 : UInt8)].toList.headD (0 : UInt8)) s).getD (2 : Nat) [] == [(109 : UInt8), (97 : UInt8), (114 : UInt8), (107 : UInt8), (115 : UInt8)], false), (decide ((0 : Int) ≤ (1 : Int) ∧ (1 : Int) < (↑(splitR (#[(32 : UInt8)].toList.headD (0 : UInt8)) s).length : Int)), true), (Nat.blt (1 : Nat) (splitR (#[(32 : UInt8)].toList.headD (0 : UInt8)) s).length, true), (Nat.blt (1 : Nat) (splitR (#[(32 : UInt8)].toList.headD (0 : UInt8)) s).length, true), (decide (((splitR (#[(32 : UInt8)].toList.headD (0 : UInt8)) s).getD (1 : Nat) []).length ≤ (1000000 : Nat)), true), (readK ((splitR (#[(32 : UInt8)].toList.headD (0 : UInt8)) s).getD (1 : Nat) []), false), (!readK ((splitR (#[(32 : UInt8)].toList.headD (0 : UInt8)) s).getD (1 : Nat) []), true)] ∧ (((0 : Int) = (0 : Int) ∧ (0 : Int) = (0 : Int) ∧ (0 : Nat) = (0 : Nat) ∧ (0 : Nat) = (0 : Nat)) ∧ ((0 : Nat) = (0 : Nat) ∧ true = true) ∧ True) ∧ (0 : Nat) = (0 : Nat) ∧ (0 : Nat) = (0 : Nat)) := by kernel_rfl

set_option maxHeartbeats 4000000 in
theorem pam1 (H : List Ent) (s : List UInt8) (x z : List UInt8) (hl : s.length ≤ 100000) (hT : splitR 32 s = [[98, 121, 116, 101, 115], x, [109, 97, 114, 107, 115], z]) (hx : readK x = false) (hxl : x.length ≤ 100000) (hzl : z.length ≤ 100000)  :
    RunsTo Tryd.prog 30 [.code (bodyOf Tryd.f30)] (envOf [vS s] Tryd.f30.ntmps) (Sx.look (paX H ++ ([]))) 80 (paV (ev0) 4) (Sx.look (evP (ev0))) 400 := by
  refine runs_last basePB (Sx.Ends.of (pam1_p0 H s x z) ⟨?oo, ?rr⟩) (by kernel_rfl) rfl (gtL (by decide)) (by decide)
  case oo =>
    refine (okc ?_ (okc ?_ (okc ?_ (okc ?_ (okc ?_ (okc ?_ (okc ?_ (okc ?_ (okc ?_ (okc ?_ (okc ?_ (okc ?_ (okc ?_ (okc ?_ (okc ?_ (okc ?_ (okc ?_ okn)))))))))))))))))
    all_goals ((try simp only [List.headD_cons, hT]); first | done | rfl | omega | assumption | exact ⟨rfl, rfl, rfl, hl⟩ | (simp (disch := omega) only [SS, List.headD_cons, hT, List.length_cons, List.length_nil]; first | done | omega | assumption) | (simp_all; done) | (simp_all; omega))
  case rr =>
    (try simp only [List.headD_cons, hT])
    repeat' apply And.intro
    all_goals first | exact True.intro | with_reducible rfl | rfl | omega | (intro k hk; exact absurd hk (Nat.not_lt_zero _)) | (simp_all [ev0]; done) | (intros; rfl)

theorem pam2_p0 (H : List Ent) (s : List UInt8) (x z : List UInt8) :
    isEnd (evTill Tryd.prog sumsPB 500 (99) 900 30 [.code (bodyOf Tryd.f30)] (envOf [vS s] Tryd.f30.ntmps) (paX H ++ ([])) ⟨[.s true, .s true, .s true, .s true, .s true, .s false, .s true, .s true, .s true, .s true, .s false, .s true, .s true, .s true, .s true, .s true, .s true, .s true, .s true, .s true, .s true, .s true], 80⟩) (endP ([((141 : Nat), Rn.nil (1 : Nat)), ((142 : Nat), Rn.nil (1 : Nat))]) (paV (ev0) 4) (evP (ev0)) 400) =
    (OkL [(decide ([(32 : UInt8)] = [#[(32 : UInt8)].toList.headD (0 : UInt8)]) && (decide ((0 : Int) = (0 : Int)) && (decide ((-1 : Int) = (-1 : Int)) && decide (s.length ≤ (1000000 : Nat)))), true), (decide ((0 : Int) ≤ (0 : Int) ∧ (0 : Int) < (↑(splitR (#[(32 : UInt8)].toList.headD (0 : UInt8)) s).length : Int)), true), (Nat.blt (0 : Nat) (splitR (#[(32 : UInt8)].toList.headD (0 : UInt8)) s).length, true), (Nat.blt (0 : Nat) (splitR (#[(32 : UInt8)].toList.headD (0 : UInt8)) s).length, true), ((splitR (#[(32 : UInt8)].toList.headD (0 : UInt8)) s).getD (0 : Nat) [] == [(98 : UInt8), (121 : UInt8), (116 : UInt8), (101 : UInt8), (115 : UInt8)], true), ((↑(splitR (#[(32 : UInt8)].toList.headD (0 : UInt8)) s).length : Int) == (2 : Int), false), ((↑(splitR (#[(32 : UInt8)].toList.headD (0 : UInt8)) s).length : Int) == (4 : Int), true), (decide ((0 : Int) ≤ (2 : Int) ∧ (2 : Int) < (↑(splitR (#[(32 : UInt8)].toList.headD (0 : UInt8)) s).length : Int)), true), (Nat.blt (2 : Nat) (splitR (#[(32 : UInt8)].toList.headD (0 : UInt8)) s).length, true), (Nat.blt (2 : Nat) (splitR (#[(32 : UInt8)].toList.headD (0 : UInt8)) s).length, true), (!(splitR (#[(32 : UInt8)].toList.headD (0 : UInt8)) s).getD (2 : Nat) [] == [(109 : UInt8), (97 : UInt8), (114 : UInt8), (107 : UInt8), (115 : UInt8)], false), (decide ((0 : Int) ≤ (1 : Int) ∧ (1 : Int) < (↑(splitR (#[(32 : UInt8)].toList.headD (0 : UInt8)) s).length : Int)), true), (Nat.blt (1 : Nat) (splitR (#[(32 : UInt8)].toList.headD (0 : UInt8)) s).length, true), (Nat.blt (1 : Nat) (splitR (#[(32 : UInt8)].toList.headD (0 : UInt8)) s).length, true), (decide (((splitR (#[(32 : UInt8)].toList.headD (0 : UInt8)) s).getD (1 : Nat) []).length ≤ (1000000 : Nat)), true), (readK ((splitR (#[(32 : UInt8)].toList.headD (0 : UInt8)) s).getD (1 : Nat) []), true), ((↑(splitR (#[(32 : UInt8)].toList.headD (0 : UInt8)) s).length : Int) == (4 : Int), true), (decide ((0 : Int) ≤ (3 : Int) ∧ (3 : Int) < (↑(splitR (#[(32 : UInt8)].toList.headD (0 : UInt8)) s).length : Int)), true), (Nat.blt (3 : Nat) (splitR (#[(32 : UInt8)].toList.headD (0 : UInt8)) s).length, true), (Nat.blt (3 : Nat) (splitR (#[(32 : UInt8)].toList.headD (0 : UInt8)) s).length, true), (decide (((splitR (#[(32 : UInt8)].toList.headD (0 : UInt8)) s).getD (3 : Nat) []).length ≤ (1000000 : Nat)), true), (!marksK ((splitR (#[(32 : UInt8)].toList.headD (0 : UInt8)) s).getD (3 : Nat) []), true)] ∧ (((0 : Int) = (0 : Int) ∧ (0 : Int) = (0 : Int) ∧ (0 : Nat) = (0 : Nat) ∧ (0 : Nat) = (0 : Nat)) ∧ ((0 : Nat) = (0 : Nat) ∧ true = true) ∧ True) ∧ (0 : Nat) = (0 : Nat) ∧ (0 : Nat) = (0 : Nat)) := by kernel_rfl

set_option maxHeartbeats 4000000 in
theorem pam2 (H : List Ent) (s : List UInt8) (x z : List UInt8) (hl : s.length ≤ 100000) (hT : splitR 32 s = [[98, 121, 116, 101, 115], x, [109, 97, 114, 107, 115], z]) (hx : readK x = true) (hz : marksK z = false) (hxl : x.length ≤ 100000) (hzl : z.length ≤ 100000)  :
    RunsTo Tryd.prog 30 [.code (bodyOf Tryd.f30)] (envOf [vS s] Tryd.f30.ntmps) (Sx.look (paX H ++ ([]))) 80 (paV (ev0) 4) (Sx.look (evP (ev0))) 400 := by
  refine runs_last basePB (Sx.Ends.of (pam2_p0 H s x z) ⟨?oo, ?rr⟩) (by kernel_rfl) rfl (gtL (by decide)) (by decide)
  case oo =>
    refine (okc ?_ (okc ?_ (okc ?_ (okc ?_ (okc ?_ (okc ?_ (okc ?_ (okc ?_ (okc ?_ (okc ?_ (okc ?_ (okc ?_ (okc ?_ (okc ?_ (okc ?_ (okc ?_ (okc ?_ (okc ?_ (okc ?_ (okc ?_ (okc ?_ (okc ?_ okn))))))))))))))))))))))
    all_goals ((try simp only [List.headD_cons, hT]); first | done | rfl | omega | assumption | exact ⟨rfl, rfl, rfl, hl⟩ | (simp (disch := omega) only [SS, List.headD_cons, hT, List.length_cons, List.length_nil]; first | done | omega | assumption) | (simp_all; done) | (simp_all; omega))
  case rr =>
    (try simp only [List.headD_cons, hT])
    repeat' apply And.intro
    all_goals first | exact True.intro | with_reducible rfl | rfl | omega | (intro k hk; exact absurd hk (Nat.not_lt_zero _)) | (simp_all [ev0]; done) | (intros; rfl)

theorem pam3_p0 (H : List Ent) (s : List UInt8) (x z : List UInt8) :
    isEnd (evTill Tryd.prog sumsPA 500 (99) 900 30 [.code (bodyOf Tryd.f30)] (envOf [vS s] Tryd.f30.ntmps) (paX H ++ ([])) ⟨[.s true, .s true, .s true, .s true, .s true, .s false, .s true, .s true, .s true, .s true, .s false, .s true, .s true, .s true, .s true, .s true, .s true, .s true, .s true, .s true, .s true, .s false, .s true, .s false], 80⟩) (endP ([((141 : Nat), Rn.to (210 : Nat)), ((142 : Nat), Rn.to (275 : Nat))]) (paV (⟨1, 0, readV x, marksV z⟩) 16) (evP (⟨1, 0, readV x, marksV z⟩)) 400) =
    (OkL [(decide ([(32 : UInt8)] = [#[(32 : UInt8)].toList.headD (0 : UInt8)]) && (decide ((0 : Int) = (0 : Int)) && (decide ((-1 : Int) = (-1 : Int)) && decide (s.length ≤ (1000000 : Nat)))), true), (decide ((0 : Int) ≤ (0 : Int) ∧ (0 : Int) < (↑(splitR (#[(32 : UInt8)].toList.headD (0 : UInt8)) s).length : Int)), true), (Nat.blt (0 : Nat) (splitR (#[(32 : UInt8)].toList.headD (0 : UInt8)) s).length, true), (Nat.blt (0 : Nat) (splitR (#[(32 : UInt8)].toList.headD (0 : UInt8)) s).length, true), ((splitR (#[(32 : UInt8)].toList.headD (0 : UInt8)) s).getD (0 : Nat) [] == [(98 : UInt8), (121 : UInt8), (116 : UInt8), (101 : UInt8), (115 : UInt8)], true), ((↑(splitR (#[(32 : UInt8)].toList.headD (0 : UInt8)) s).length : Int) == (2 : Int), false), ((↑(splitR (#[(32 : UInt8)].toList.headD (0 : UInt8)) s).length : Int) == (4 : Int), true), (decide ((0 : Int) ≤ (2 : Int) ∧ (2 : Int) < (↑(splitR (#[(32 : UInt8)].toList.headD (0 : UInt8)) s).length : Int)), true), (Nat.blt (2 : Nat) (splitR (#[(32 : UInt8)].toList.headD (0 : UInt8)) s).length, true), (Nat.blt (2 : Nat) (splitR (#[(32 : UInt8)].toList.headD (0 : UInt8)) s).length, true), (!(splitR (#[(32 : UInt8)].toList.headD (0 : UInt8)) s).getD (2 : Nat) [] == [(109 : UInt8), (97 : UInt8), (114 : UInt8), (107 : UInt8), (115 : UInt8)], false), (decide ((0 : Int) ≤ (1 : Int) ∧ (1 : Int) < (↑(splitR (#[(32 : UInt8)].toList.headD (0 : UInt8)) s).length : Int)), true), (Nat.blt (1 : Nat) (splitR (#[(32 : UInt8)].toList.headD (0 : UInt8)) s).length, true), (Nat.blt (1 : Nat) (splitR (#[(32 : UInt8)].toList.headD (0 : UInt8)) s).length, true), (decide (((splitR (#[(32 : UInt8)].toList.headD (0 : UInt8)) s).getD (1 : Nat) []).length ≤ (1000000 : Nat)), true), (readK ((splitR (#[(32 : UInt8)].toList.headD (0 : UInt8)) s).getD (1 : Nat) []), true), ((↑(splitR (#[(32 : UInt8)].toList.headD (0 : UInt8)) s).length : Int) == (4 : Int), true), (decide ((0 : Int) ≤ (3 : Int) ∧ (3 : Int) < (↑(splitR (#[(32 : UInt8)].toList.headD (0 : UInt8)) s).length : Int)), true), (Nat.blt (3 : Nat) (splitR (#[(32 : UInt8)].toList.headD (0 : UInt8)) s).length, true), (Nat.blt (3 : Nat) (splitR (#[(32 : UInt8)].toList.headD (0 : UInt8)) s).length, true), (decide (((splitR (#[(32 : UInt8)].toList.headD (0 : UInt8)) s).getD (3 : Nat) []).length ≤ (1000000 : Nat)), true), (!marksK ((splitR (#[(32 : UInt8)].toList.headD (0 : UInt8)) s).getD (3 : Nat) []), false), (decide ((marksV ((splitR (#[(32 : UInt8)].toList.headD (0 : UInt8)) s).getD (3 : Nat) [])).length ≤ (marksV ((splitR (#[(32 : UInt8)].toList.headD (0 : UInt8)) s).getD (3 : Nat) [])).length) && (decide ((readV ((splitR (#[(32 : UInt8)].toList.headD (0 : UInt8)) s).getD (1 : Nat) [])).length ≤ (100000 : Nat)) && decide ((marksV ((splitR (#[(32 : UInt8)].toList.headD (0 : UInt8)) s).getD (3 : Nat) [])).length ≤ (100000 : Nat))), true), (!rightV (1 : Int) (0 : Int) (readV ((splitR (#[(32 : UInt8)].toList.headD (0 : UInt8)) s).getD (1 : Nat) [])).length (marksV ((splitR (#[(32 : UInt8)].toList.headD (0 : UInt8)) s).getD (3 : Nat) [])).length fun is => (marksV ((splitR (#[(32 : UInt8)].toList.headD (0 : UInt8)) s).getD (3 : Nat) [])).getD (List.headD is (0 : Nat)) (0 : Int), false)] ∧ (((1 : Int) = (1 : Int) ∧ (0 : Int) = (0 : Int) ∧ ((0 : Nat) = (0 : Nat) ∧ (readV x).length = (readV ((splitR (#[(32 : UInt8)].toList.headD (0 : UInt8)) s).getD (1 : Nat) [])).length) ∧ (0 : Nat) = (0 : Nat) ∧ (marksV z).length = (marksV ((splitR (#[(32 : UInt8)].toList.headD (0 : UInt8)) s).getD (3 : Nat) [])).length) ∧ (none : Option Nat) = none ∧ True) ∧ ((readV x).length = (readV ((splitR (#[(32 : UInt8)].toList.headD (0 : UInt8)) s).getD (1 : Nat) [])).length ∧ ∀ (i : Nat), i < (readV x).length → (↑((readV x).getD i (0 : UInt8)).toNat : Int) = (↑((readV ((splitR (#[(32 : UInt8)].toList.headD (0 : UInt8)) s).getD (1 : Nat) [])).getD i (0 : UInt8)).toNat : Int)) ∧ (marksV z).length = (marksV ((splitR (#[(32 : UInt8)].toList.headD (0 : UInt8)) s).getD (3 : Nat) [])).length ∧ ∀ (i : Nat), i < (marksV z).length → (marksV z).getD i (0 : Int) = (marksV ((splitR (#[(32 : UInt8)].toList.headD (0 : UInt8)) s).getD (3 : Nat) [])).getD i (0 : Int)) := by kernel_rfl

set_option maxHeartbeats 4000000 in
theorem pam3 (H : List Ent) (s : List UInt8) (x z : List UInt8) (hl : s.length ≤ 100000) (hT : splitR 32 s = [[98, 121, 116, 101, 115], x, [109, 97, 114, 107, 115], z]) (hx : readK x = true) (hz : marksK z = true) (hr : rightV 1 0 (readV x).length (marksV z).length (fun is => (marksV z).getD (is.headD 0) 0) = true) (hb1 : (readV x).length ≤ 100000) (hb2 : (marksV z).length ≤ 100000) (hxl : x.length ≤ 100000) (hzl : z.length ≤ 100000)  :
    RunsTo Tryd.prog 30 [.code (bodyOf Tryd.f30)] (envOf [vS s] Tryd.f30.ntmps) (Sx.look (paX H ++ ([]))) 80 (paV (⟨1, 0, readV x, marksV z⟩) 16) (Sx.look (evP (⟨1, 0, readV x, marksV z⟩))) 400 := by
  refine runs_last basePA (Sx.Ends.of (pam3_p0 H s x z) ⟨?oo, ?rr⟩) (by kernel_rfl) rfl (gtL (by decide)) (by decide)
  case oo =>
    refine (okc ?_ (okc ?_ (okc ?_ (okc ?_ (okc ?_ (okc ?_ (okc ?_ (okc ?_ (okc ?_ (okc ?_ (okc ?_ (okc ?_ (okc ?_ (okc ?_ (okc ?_ (okc ?_ (okc ?_ (okc ?_ (okc ?_ (okc ?_ (okc ?_ (okc ?_ (okc ?_ (okc ?_ okn))))))))))))))))))))))))
    all_goals ((try simp only [List.headD_cons, hT]); first | done | rfl | omega | assumption | exact ⟨rfl, rfl, rfl, hl⟩ | (simp (disch := omega) only [SS, List.headD_cons, hT, List.length_cons, List.length_nil]; first | done | omega | assumption) | (simp_all; done) | (simp_all; omega))
  case rr =>
    (try simp only [List.headD_cons, hT])
    repeat' apply And.intro
    all_goals first | exact True.intro | with_reducible rfl | rfl | omega | (intro k hk; exact absurd hk (Nat.not_lt_zero _)) | (simp_all [ev0]; done) | (intros; rfl)

theorem pam4_p0 (H : List Ent) (s : List UInt8) (x z : List UInt8) :
    isEnd (evTill Tryd.prog sumsPA 500 (99) 900 30 [.code (bodyOf Tryd.f30)] (envOf [vS s] Tryd.f30.ntmps) (paX H ++ ([])) ⟨[.s true, .s true, .s true, .s true, .s true, .s false, .s true, .s true, .s true, .s true, .s false, .s true, .s true, .s true, .s true, .s true, .s true, .s true, .s true, .s true, .s true, .s false, .s true, .s true], 80⟩) (endP ([((141 : Nat), Rn.nil (1 : Nat)), ((142 : Nat), Rn.nil (1 : Nat))]) (paV (ev0) 4) (evP (ev0)) 400) =
    (OkL [(decide ([(32 : UInt8)] = [#[(32 : UInt8)].toList.headD (0 : UInt8)]) && (decide ((0 : Int) = (0 : Int)) && (decide ((-1 : Int) = (-1 : Int)) && decide (s.length ≤ (1000000 : Nat)))), true), (decide ((0 : Int) ≤ (0 : Int) ∧ (0 : Int) < (↑(splitR (#[(32 : UInt8)].toList.headD (0 : UInt8)) s).length : Int)), true), (Nat.blt (0 : Nat) (splitR (#[(32 : UInt8)].toList.headD (0 : UInt8)) s).length, true), (Nat.blt (0 : Nat) (splitR (#[(32 : UInt8)].toList.headD (0 : UInt8)) s).length, true), ((splitR (#[(32 : UInt8)].toList.headD (0 : UInt8)) s).getD (0 : Nat) [] == [(98 : UInt8), (121 : UInt8), (116 : UInt8), (101 : UInt8), (115 : UInt8)], true), ((↑(splitR (#[(32 : UInt8)].toList.headD (0 : UInt8)) s).length : Int) == (2 : Int), false), ((↑(splitR (#[(32 : UInt8)].toList.headD (0 : UInt8)) s).length : Int) == (4 : Int), true), (decide ((0 : Int) ≤ (2 : Int) ∧ (2 : Int) < (↑(splitR (#[(32 : UInt8)].toList.headD (0 : UInt8)) s).length : Int)), true), (Nat.blt (2 : Nat) (splitR (#[(32 : UInt8)].toList.headD (0 : UInt8)) s).length, true), (Nat.blt (2 : Nat) (splitR (#[(32 : UInt8)].toList.headD (0 : UInt8)) s).length, true), (!(splitR (#[(32 : UInt8)].toList.headD (0 : UInt8)) s).getD (2 : Nat) [] == [(109 : UInt8), (97 : UInt8), (114 : UInt8), (107 : UInt8), (115 : UInt8)], false), (decide ((0 : Int) ≤ (1 : Int) ∧ (1 : Int) < (↑(splitR (#[(32 : UInt8)].toList.headD (0 : UInt8)) s).length : Int)), true), (Nat.blt (1 : Nat) (splitR (#[(32 : UInt8)].toList.headD (0 : UInt8)) s).length, true), (Nat.blt (1 : Nat) (splitR (#[(32 : UInt8)].toList.headD (0 : UInt8)) s).length, true), (decide (((splitR (#[(32 : UInt8)].toList.headD (0 : UInt8)) s).getD (1 : Nat) []).length ≤ (1000000 : Nat)), true), (readK ((splitR (#[(32 : UInt8)].toList.headD (0 : UInt8)) s).getD (1 : Nat) []), true), ((↑(splitR (#[(32 : UInt8)].toList.headD (0 : UInt8)) s).length : Int) == (4 : Int), true), (decide ((0 : Int) ≤ (3 : Int) ∧ (3 : Int) < (↑(splitR (#[(32 : UInt8)].toList.headD (0 : UInt8)) s).length : Int)), true), (Nat.blt (3 : Nat) (splitR (#[(32 : UInt8)].toList.headD (0 : UInt8)) s).length, true), (Nat.blt (3 : Nat) (splitR (#[(32 : UInt8)].toList.headD (0 : UInt8)) s).length, true), (decide (((splitR (#[(32 : UInt8)].toList.headD (0 : UInt8)) s).getD (3 : Nat) []).length ≤ (1000000 : Nat)), true), (!marksK ((splitR (#[(32 : UInt8)].toList.headD (0 : UInt8)) s).getD (3 : Nat) []), false), (decide ((marksV ((splitR (#[(32 : UInt8)].toList.headD (0 : UInt8)) s).getD (3 : Nat) [])).length ≤ (marksV ((splitR (#[(32 : UInt8)].toList.headD (0 : UInt8)) s).getD (3 : Nat) [])).length) && (decide ((readV ((splitR (#[(32 : UInt8)].toList.headD (0 : UInt8)) s).getD (1 : Nat) [])).length ≤ (100000 : Nat)) && decide ((marksV ((splitR (#[(32 : UInt8)].toList.headD (0 : UInt8)) s).getD (3 : Nat) [])).length ≤ (100000 : Nat))), true), (!rightV (1 : Int) (0 : Int) (readV ((splitR (#[(32 : UInt8)].toList.headD (0 : UInt8)) s).getD (1 : Nat) [])).length (marksV ((splitR (#[(32 : UInt8)].toList.headD (0 : UInt8)) s).getD (3 : Nat) [])).length fun is => (marksV ((splitR (#[(32 : UInt8)].toList.headD (0 : UInt8)) s).getD (3 : Nat) [])).getD (List.headD is (0 : Nat)) (0 : Int), true)] ∧ (((0 : Int) = (0 : Int) ∧ (0 : Int) = (0 : Int) ∧ (0 : Nat) = (0 : Nat) ∧ (0 : Nat) = (0 : Nat)) ∧ ((0 : Nat) = (0 : Nat) ∧ true = true) ∧ True) ∧ (0 : Nat) = (0 : Nat) ∧ (0 : Nat) = (0 : Nat)) := by kernel_rfl

set_option maxHeartbeats 4000000 in
theorem pam4 (H : List Ent) (s : List UInt8) (x z : List UInt8) (hl : s.length ≤ 100000) (hT : splitR 32 s = [[98, 121, 116, 101, 115], x, [109, 97, 114, 107, 115], z]) (hx : readK x = true) (hz : marksK z = true) (hr : rightV 1 0 (readV x).length (marksV z).length (fun is => (marksV z).getD (is.headD 0) 0) = false) (hb1 : (readV x).length ≤ 100000) (hb2 : (marksV z).length ≤ 100000) (hxl : x.length ≤ 100000) (hzl : z.length ≤ 100000)  :
    RunsTo Tryd.prog 30 [.code (bodyOf Tryd.f30)] (envOf [vS s] Tryd.f30.ntmps) (Sx.look (paX H ++ ([]))) 80 (paV (ev0) 4) (Sx.look (evP (ev0))) 400 := by
  refine runs_last basePA (Sx.Ends.of (pam4_p0 H s x z) ⟨?oo, ?rr⟩) (by kernel_rfl) rfl (gtL (by decide)) (by decide)
  case oo =>
    refine (okc ?_ (okc ?_ (okc ?_ (okc ?_ (okc ?_ (okc ?_ (okc ?_ (okc ?_ (okc ?_ (okc ?_ (okc ?_ (okc ?_ (okc ?_ (okc ?_ (okc ?_ (okc ?_ (okc ?_ (okc ?_ (okc ?_ (okc ?_ (okc ?_ (okc ?_ (okc ?_ (okc ?_ okn))))))))))))))))))))))))
    all_goals ((try simp only [List.headD_cons, hT]); first | done | rfl | omega | assumption | exact ⟨rfl, rfl, rfl, hl⟩ | (simp (disch := omega) only [SS, List.headD_cons, hT, List.length_cons, List.length_nil]; first | done | omega | assumption) | (simp_all; done) | (simp_all; omega))
  case rr =>
    (try simp only [List.headD_cons, hT])
    repeat' apply And.intro
    all_goals first | exact True.intro | with_reducible rfl | rfl | omega | (intro k hk; exact absurd hk (Nat.not_lt_zero _)) | (simp_all [ev0]; done) | (intros; rfl)

theorem read_get {x : List UInt8} : readR x = if readK x = true then some (readV x) else none := by
  unfold readK readV; cases readR x <;> rfl
theorem marks_get {x : List UInt8} : numsR (splitR 44 x) = if marksK x = true then some (marksV x) else none := by
  unfold marksK marksV; cases numsR (splitR 44 x) <;> rfl
theorem read_len {x b : List UInt8} (h : readR x = some b) : b.length ≤ x.length := by
  have h1 := told_read h
  have h2 := hexT_len b
  rw [← h1]
  unfold toldR
  split
  · rename_i e; rw [e]; simp
  · show b.length ≤ (hexT b).length
    omega
theorem readV_len (x : List UInt8) : (readV x).length ≤ x.length := by
  unfold readV
  cases h : readR x with
  | none => simp
  | some b => exact read_len h
theorem marksV_len (x : List UInt8) : (marksV x).length ≤ x.length + 1 := by
  unfold marksV
  cases h : numsR (splitR 44 x) with
  | none => simp
  | some b =>
    have := (nums_back h).2
    have h2 := splitR_len 44 x
    have h3 : x.count 44 ≤ x.length := List.count_le_length
    show b.length ≤ _
    omega
theorem intsF_list (m : List Int) : intsF (fun is => m.getD (is.headD 0) 0) m.length = m := by
  apply List.ext_getElem
  · simp [intsF]
  · intro i h1 h2
    simp [intsF, List.getD_eq_getElem?_getD, List.getElem?_eq_getElem h2]
theorem paT (H : List Ent) (s : List UInt8) (hl : s.length ≤ 100000) : RunsTo Tryd.prog 30 [.code (bodyOf Tryd.f30)] (envOf [vS s] Tryd.f30.ntmps) (Sx.look (paX H ++ ([]))) 80 (paV (evR s) (evK s)) (Sx.look (evP (evR s))) 400 := by
  have hmem := split_mem_len 32 s
  have none_ : parseR s = none → RunsTo Tryd.prog 30 [.code (bodyOf Tryd.f30)] (envOf [vS s] Tryd.f30.ntmps) (Sx.look (paX H ++ ([]))) 80 (paV ev0 4) (Sx.look (evP ev0)) 400 → RunsTo Tryd.prog 30 [.code (bodyOf Tryd.f30)] (envOf [vS s] Tryd.f30.ntmps) (Sx.look (paX H ++ ([]))) 80 (paV (evR s) (evK s)) (Sx.look (evP (evR s))) 400 := by
    intro h1 h2
    have e1 : evR s = ev0 := by unfold evR; rw [h1]; rfl
    have e2 : evK s = 4 := by unfold evK; rw [h1]; rfl
    rw [e1, e2]; exact h2
  have some_ : ∀ e, parseR s = some e → RunsTo Tryd.prog 30 [.code (bodyOf Tryd.f30)] (envOf [vS s] Tryd.f30.ntmps) (Sx.look (paX H ++ ([]))) 80 (paV e 16) (Sx.look (evP e)) 400 → RunsTo Tryd.prog 30 [.code (bodyOf Tryd.f30)] (envOf [vS s] Tryd.f30.ntmps) (Sx.look (paX H ++ ([]))) 80 (paV (evR s) (evK s)) (Sx.look (evP (evR s))) 400 := by
    intro e h1 h2
    have e1 : evR s = e := by unfold evR; rw [h1]; rfl
    have e2 : evK s = 16 := by unfold evK; rw [h1]; rfl
    rw [e1, e2]; exact h2
  generalize hT : splitR 32 s = T at hmem
  have hp : parseR s = match saidR T with | some e => if rightR e = true then some e else none | none => none := by unfold parseR; rw [hT]; rfl
  match T, hT with
  | [], hT => exact absurd hT (splitR_ne 32 s)
  | w :: ws, hT =>
  by_cases h1 : w = wBytes
  · subst h1
    match ws, hT, hmem with
    | [], hT, _ => exact none_ (by rw [hp]; simp [saidR, wBytes, wClose]) (pab1 H s [] hl hT (by simp) (by simp))
    | [x], hT, hmem =>
      have hxl : x.length ≤ 100000 := by have := hmem x (by simp); omega
      have hs : saidR [wBytes, x] = if readK x = true then some ⟨1, 0, readV x, []⟩ else none := by unfold saidR; dsimp only; rw [if_pos rfl, read_get]; cases readK x <;> rfl
      cases hk : readK x with
      | false => exact none_ (by rw [hp, hs, hk]; rfl) (pab2 H s x hl hT hk hxl)
      | true =>
        by_cases hr : (readV x).length ≤ 1024
        · exact some_ ⟨1, 0, readV x, []⟩ (by rw [hp, hs, hk]; simp [rightR, upR, hr]) (pab3 H s x [] hl hT rfl hk hxl hr)
        · exact none_ (by rw [hp, hs, hk]; simp [rightR, upR, hr]) (pab4 H s x hl hT hk hxl hr)
    | [x, y], hT, _ => exact none_ (by rw [hp]; simp [saidR]) (pab1 H s _ hl hT (by simp) (by simp))
    | [x, y, z], hT, hmem =>
      have hxl : x.length ≤ 100000 := by have := hmem x (by simp); omega
      have hzl : z.length ≤ 99999 := by
        have := congrArg List.length (join_split 32 s)
        rw [hT] at this
        simp [joinR] at this
        omega
      by_cases hy : y = wMarks
      · subst hy
        have hs : saidR [wBytes, x, wMarks, z] = if readK x = true then (if marksK z = true then some ⟨1, 0, readV x, marksV z⟩ else none) else none := by unfold saidR; dsimp only; rw [if_pos ⟨rfl, rfl⟩, read_get, marks_get]; cases readK x <;> cases marksK z <;> rfl
        have b1 := readV_len x
        have b2 := marksV_len z
        cases hk : readK x with
        | false => exact none_ (by rw [hp, hs, hk]; rfl) (pam1 H s x z hl hT hk hxl (by omega))
        | true =>
          cases hz : marksK z with
          | false => exact none_ (by rw [hp, hs, hk, hz]; rfl) (pam2 H s x z hl hT hk hz hxl (by omega))
          | true =>
            have hq : rightR ⟨1, 0, readV x, marksV z⟩ = rightV 1 0 (readV x).length (marksV z).length (fun is => (marksV z).getD (is.headD 0) 0) := by
              simp only [rightR, rightV, intsF_list]
              simp
            cases hr : rightV 1 0 (readV x).length (marksV z).length (fun is => (marksV z).getD (is.headD 0) 0) with
            | true => exact some_ ⟨1, 0, readV x, marksV z⟩ (by rw [hp, hs, hk, hz]; simp only [if_true]; rw [hq, hr]; rfl) (pam3 H s x z hl hT hk hz hr (by omega) (by omega) hxl (by omega))
            | false => exact none_ (by rw [hp, hs, hk, hz]; simp only [if_true]; rw [hq, hr]; rfl) (pam4 H s x z hl hT hk hz hr (by omega) (by omega) hxl (by omega))
      · exact none_ (by rw [hp]; simp [saidR, hy]) (pab5 H s _ hl hT rfl hy)
    | x :: y :: z :: u :: r, hT, _ => exact none_ (by rw [hp]; simp [saidR]) (pab1 H s _ hl hT (by simp) (by simp))
  have nums : ∀ k : Int, (k = 2 ∨ k = 3) → ∀ x : List UInt8, numOK x = true → rightR ⟨k, numV x, [], []⟩ = true := by
    intro k hk x hx
    obtain ⟨i1, i2⟩ := itoa_num hx
    have hle : numV x ≤ 9999 := by
      have h4 : x.length ≤ 4 := by unfold numOK at hx; simp only [Bool.and_eq_true, decide_eq_true_eq] at hx; exact hx.2.1
      have hv : numV x ≤ 65535 := (numV_le x).2
      by_cases h : numV x ≤ 9999
      · exact h
      · exfalso
        have hd : Lib.itoa (numV x) = Lib.decDigits (numV x).toNat := if_neg (by omega)
        have h5 : (Lib.itoa (numV x)).length = Lib.nDigits (numV x).toNat := by rw [hd, Lib.decDigits_length]
        rw [i1] at h5
        have h6 := Lib.lt_pow_nDigits (numV x).toNat
        have h7 : 10 ^ Lib.nDigits (numV x).toNat ≤ 10 ^ 4 := Nat.pow_le_pow_right (by omega) (by omega)
        omega
    rcases hk with rfl | rfl <;> simp [rightR, i2, hle]
  by_cases h2 : w = wGrant
  · subst h2
    match ws, hT, hmem with
    | [x], hT, hmem =>
      have hxl : x.length ≤ 100000 := by have := hmem x (by simp); omega
      have hs : saidR [wGrant, x] = if numOK x = true then some ⟨2, numV x, [], []⟩ else none := by simp [saidR, wGrant, wBytes]
      cases hk : numOK x with
      | false => exact none_ (by rw [hp, hs, hk]; rfl) (pag2 H s x hl hT hk hxl)
      | true =>
        have hR := nums 2 (.inl rfl) x hk
        have hR2 := hR
        simp [rightR] at hR2
        exact some_ ⟨2, numV x, [], []⟩ (by rw [hp, hs, hk]; simp only [if_true]; rw [hR]; rfl) (pag3 H s x [] [] hl hT rfl rfl hk hxl hR2.1 hR2.2)
    | [], hT, _ => exact none_ (by rw [hp]; simp [saidR, wGrant, wClose]) (pag1 H s _ hl hT (by simp))
    | [x, y], hT, _ => exact none_ (by rw [hp]; simp [saidR]) (pag1 H s _ hl hT (by simp))
    | [x, y, z], hT, _ => exact none_ (by rw [hp]; simp [saidR, wGrant, wBytes]) (pag1 H s _ hl hT (by simp))
    | x :: y :: z :: u :: r, hT, _ => exact none_ (by rw [hp]; simp [saidR]) (pag1 H s _ hl hT (by simp))
  by_cases h3 : w = wTick
  · subst h3
    match ws, hT, hmem with
    | [x], hT, hmem =>
      have hxl : x.length ≤ 100000 := by have := hmem x (by simp); omega
      have hs : saidR [wTick, x] = if numOK x = true then some ⟨3, numV x, [], []⟩ else none := by simp [saidR, wGrant, wTick, wBytes]
      cases hk : numOK x with
      | false => exact none_ (by rw [hp, hs, hk]; rfl) (pat2 H s x hl hT hk hxl)
      | true =>
        have hR := nums 3 (.inr rfl) x hk
        have hR2 := hR
        simp [rightR] at hR2
        exact some_ ⟨3, numV x, [], []⟩ (by rw [hp, hs, hk]; simp only [if_true]; rw [hR]; rfl) (pat3 H s x [] [] hl hT rfl rfl hk hxl hR2.1 hR2.2)
    | [], hT, _ => exact none_ (by rw [hp]; simp [saidR, wTick, wClose]) (pat1 H s _ hl hT (by simp))
    | [x, y], hT, _ => exact none_ (by rw [hp]; simp [saidR]) (pat1 H s _ hl hT (by simp))
    | [x, y, z], hT, _ => exact none_ (by rw [hp]; simp [saidR, wTick, wBytes]) (pat1 H s _ hl hT (by simp))
    | x :: y :: z :: u :: r, hT, _ => exact none_ (by rw [hp]; simp [saidR]) (pat1 H s _ hl hT (by simp))
  by_cases h4 : w = wClose
  · subst h4
    match ws, hT with
    | [], hT => exact some_ ⟨4, 0, [], []⟩ (by rw [hp]; simp [saidR, rightR]) (pac2 H s [] [] hl hT rfl rfl)
    | x :: r, hT => exact none_ (by
        rw [hp]
        match r with
        | [] => simp [saidR, wClose, wBytes, wGrant, wTick]
        | [y] => simp [saidR]
        | [y, z] => simp [saidR, wClose, wBytes]
        | y :: z :: u :: r => simp [saidR]) (pac1 H s _ hl hT (by simp))
  exact none_ (by
    rw [hp]
    match ws with
    | [] => simp [saidR, h4]
    | [x] => simp [saidR, h1, h2, h3]
    | [x, y] => simp [saidR]
    | [x, y, z] => simp [saidR, h1]
    | x :: y :: z :: u :: r => simp [saidR]) (pa0 H s w ws hl hT h1 h2 h3 h4)
def paP : PC := { args := [.v (.vs 0)], heap := [], gs := [1, 20, 21], G := 24, tp := 194, n := 80, n' := 400, cond := fun e => decide ((eS e 0 []).length ≤ 100000), v := fun e => paV (evR (eS e 0 [])) (evK (eS e 0 [])), post := fun e => evP (evR (eS e 0 [])) }
theorem paP_pc : PC.Runs Tryd.prog 30 Tryd.f30 (bodyOf Tryd.f30) paP := ⟨Tryd.func30, by kernel_rfl, (fun g hg => by first | (cases hg; done) | (revert g; show ∀ g ∈ ([1, 20, 21] : List Nat), g < 24; decide)), fun e H hc => by
  have hc : (decide ((eS e 0 []).length ≤ 100000)) = true := hc
  try simp only [Bool.and_eq_true, decide_eq_true_eq, Nat.beq_eq] at hc
  exact paT H (eS e 0 []) hc⟩
end Go.Proofs.YtankmgnjkcgpaaaDoor

set_option linter.unusedSimpArgs false
set_option linter.unusedVariables false
set_option maxRecDepth 100000
namespace Go.Proofs.YtankmgnjkcgpaaaDoor
open Go.Sx

open RawR
theorem inN_of {x : Int} (h : -9223372036854775808 ≤ x ∧ x < 9223372036854775808) : inN x = true := decide_eq_true h
theorem right_in {e : RawR.Ev} (h : rightR e = true) : inN e.N = true ∧ (∀ x ∈ e.M, 0 ≤ x ∧ x < 1024) ∧ e.B.length ≤ 1024 := by
  unfold rightR at h
  split at h
  · simp only [Bool.and_eq_true, decide_eq_true_eq] at h
    obtain ⟨⟨h1, h2⟩, h3⟩ := h
    exact ⟨inN_of (by omega), fun x hx => by have := up_in h3 x hx; omega, h2⟩
  · split at h
    · rw [decide_eq_true_eq] at h
      obtain ⟨h1, h2, h3, h4⟩ := h
      exact ⟨inN_of (by omega), (fun x hx => by rw [h4] at hx; cases hx), by rw [h3]; simp⟩
    · split at h
      · rw [decide_eq_true_eq] at h
        obtain ⟨h1, h3, h4⟩ := h
        exact ⟨inN_of (by omega), (fun x hx => by rw [h4] at hx; cases hx), by rw [h3]; simp⟩
      · cases h
def sumsAV : List (FuncId × Summ) := [(30, paP.summ 48), (32, lnP.summ 48)]
theorem baseAV : Base0 Tryd.prog sumsAV := ((baseO.cons Tryd.func32 (by kernel_rfl) (PC.summ_ok lnP_pc gtopG)).cons Tryd.func30 (by kernel_rfl) (PC.summ_ok paP_pc gtopG))
theorem avI_p0 (H : List Ent) (P : Ix → Int) :
    isEnd (evTill Tryd.prog sumsAV 500 (99) 900 28 [.code (bodyOf Tryd.f28)] (envOf [] Tryd.f28.ntmps) ((paX H ++ pwF P) ++ ([])) ⟨[.t, .t, .t, .t, .t, .f, .t, .t, .t, .t, .t, .t, .t, .f, .f, .t, .s true], 80⟩) (endP ([]) (YES) ([]) 1200) =
    (OkL [(decide ((1 : Nat) ≤ (1 : Nat)) && (decide ((2 : Nat) ≤ (2 : Nat)) && (decide ((2 : Nat) ≤ (100000 : Nat)) && (decide ((1 : Nat) ≤ (1000 : Nat)) && (bndB (fun is => (↑([UInt8.ofNat (97 : Nat), UInt8.ofNat (98 : Nat)].getD (List.headD is (0 : Nat)) (0 : UInt8)).toNat : Int)) (2 : Nat) && (rangeI (fun is => [numV [(49 : UInt8)]].getD (List.headD is (0 : Nat)) (0 : Int)) (1 : Nat) && (pwOK P && inN (0 : Int))))))), true)] ∧ true = ((lineV (1 : Int) (0 : Int) (2 : Nat) (1 : Nat) (fun is => (↑([UInt8.ofNat (97 : Nat), UInt8.ofNat (98 : Nat)].getD (List.headD is (0 : Nat)) (0 : UInt8)).toNat : Int)) fun is => [numV [(49 : UInt8)]].getD (List.headD is (0 : Nat)) (0 : Int)) == [(98 : UInt8), (121 : UInt8), (116 : UInt8), (101 : UInt8), (115 : UInt8), (32 : UInt8), (54 : UInt8), (49 : UInt8), (54 : UInt8), (50 : UInt8), (32 : UInt8), (109 : UInt8), (97 : UInt8), (114 : UInt8), (107 : UInt8), (115 : UInt8), (32 : UInt8), (49 : UInt8)]) ∧ True) := by kernel_rfl

set_option maxHeartbeats 4000000 in
theorem avI (H : List Ent) (P : Ix → Int) (hP : pwOK P = true)  :
    RunsTo Tryd.prog 28 [.code (bodyOf Tryd.f28)] (envOf [] Tryd.f28.ntmps) (Sx.look ((paX H ++ pwF P) ++ ([]))) 80 (YES) (Sx.look ([])) 1200 := by
  refine runs_last baseAV (Sx.Ends.of (avI_p0 H P) ⟨?oo, ?rr⟩) (by kernel_rfl) rfl (gtL (by decide)) (by decide)
  case oo =>
    refine (okc ?_ okn)
    all_goals (rw [hP]; kernel_rfl)
  case rr =>
    exact ⟨by kernel_rfl, trivial⟩

def avP : PC := { args := [], heap := [], fams := [], tabs := [⟨17, false, 20, .tn 20 (.vi .u64 9)⟩], gs := [1, 20, 21], G := 24, tp := 194, n := 80, n' := 1200, cond := fun e => pwOK (eI e 9), v := fun e => YES, post := fun e => [] }
theorem avP_pc : PC.Runs Tryd.prog 28 Tryd.f28 (bodyOf Tryd.f28) avP := ⟨Tryd.func28, by kernel_rfl, (fun g hg => by first | (cases hg; done) | (revert g; show ∀ g ∈ ([1, 20, 21] : List Nat), g < 24; decide)), fun e H hc => by
  have hc : (pwOK (eI e 9)) = true := hc
  try simp only [Bool.and_eq_true, decide_eq_true_eq, Nat.beq_eq] at hc
  exact avI H (eI e 9) hc⟩
def rbS (t0 t1 t2 : List UInt8) : List Ent := sentEnts 24 194 [(21, t0), (20, t1), (1, t2)]
end Go.Proofs.YtankmgnjkcgpaaaDoor

set_option linter.unusedSimpArgs false
set_option linter.unusedVariables false
set_option maxRecDepth 100000
namespace Go.Proofs.YtankmgnjkcgpaaaDoor
open Go.Sx RawR

def powT : List Int := [1, 10, 100, 1000, 10000, 100000, 1000000, 10000000, 100000000, 1000000000, 10000000000, 100000000000, 1000000000000, 10000000000000, 100000000000000, 1000000000000000, 10000000000000000, 100000000000000000, 1000000000000000000, 10000000000000000000]
def powF : Ix → Int := fun is => powT.getD (is.headD 0) 0
theorem powF_ok : pwOK powF = true := by decide +kernel
theorem inN_wf {n : Int} (h : (Lit.int .i64 n).wf = true) : inN n = true := by
  have := bounds_i64 h
  unfold inN
  rw [decide_eq_true_eq]
  omega
theorem sl_i64 {W : World} {v : Value} (h : (Sh.sl (.ki .i64)).Is W [v]) {g : Rd} {o : Nat} (hg : g [] o = v) : ∀ i, i < lenOf v → inN (Sx.intOf (rdOf W 1 g o [i] 0)) = true := by
  obtain ⟨u, hu, _, _, _, _, hrows⟩ := h
  have hu : v = u := by simpa using hu
  subst hu
  intro i hi
  obtain ⟨n, hn, hwf⟩ := hrows i hi
  have e : rdOf W 1 g o [i] 0 = .int .i64 n := by
    have : rdOf W 1 g o [i] 0 = (rowsOf W 1 (g [] o) i).getD 0 undef := rfl
    rw [this, hg]
    have e1 : (Sh.ki .i64).size = 1 := rfl
    rw [e1] at hn
    rw [hn]; rfl
  rw [e]
  exact inN_wf hwf
abbrev shEv : Sh := .tc (.ki .i64) (.tc (.ki .i64) (.tc (.sl (.ki .u8)) (.tc (.sl (.ki .i64)) .t0)))
theorem ev_arg {W : World} {p a r : List Value} (h : shEv.Is W a) (o : Nat) (ho : p.length = o) :
    (inN (Sx.intOf (Go.Sx.rd0 (p ++ (a ++ r)) [] o)) = true ∧ inN (Sx.intOf (Go.Sx.rd0 (p ++ (a ++ r)) [] (o + 1))) = true) ∧
    bndB (fun is => Sx.intOf (rdOf W 1 (Go.Sx.rd0 (p ++ (a ++ r))) (o + 2) is 0)) (lenOf (Go.Sx.rd0 (p ++ (a ++ r)) [] (o + 2))) = true ∧
    rangeI (fun is => Sx.intOf (rdOf W 1 (Go.Sx.rd0 (p ++ (a ++ r))) (o + 3) is 0)) (lenOf (Go.Sx.rd0 (p ++ (a ++ r)) [] (o + 3))) = true := by
  subst ho
  obtain ⟨c0, t0, rfl, _, ⟨a0, rfl, w0⟩, h1⟩ := h
  obtain ⟨c1, t1, rfl, _, ⟨a1, rfl, w1⟩, h2⟩ := h1
  obtain ⟨c2, t2, rfl, l2, s2, h3⟩ := h2
  obtain ⟨c3, t3, rfl, l3, s3, h4⟩ := h3
  obtain rfl : t3 = [] := h4
  obtain ⟨v2, rfl⟩ : ∃ v, c2 = [v] := List.length_eq_one_iff.1 l2
  obtain ⟨v3, rfl⟩ : ∃ v, c3 = [v] := List.length_eq_one_iff.1 l3
  have key : ∀ j, Go.Sx.rd0 (p ++ (([.int .i64 a0] ++ ([.int .i64 a1] ++ ([v2] ++ ([v3] ++ [])))) ++ r)) [] (p.length + j) = (([.int .i64 a0, .int .i64 a1, v2, v3] : List Value) ++ r).getD j undef := by
    intro j
    show (p ++ _).getD (p.length + j) undef = _
    rw [List.getD_eq_getElem?_getD, List.getElem?_append_right (by omega), Nat.add_sub_cancel_left]
    simp [List.getD_eq_getElem?_getD]
  have k0 := key 0
  have k1 := key 1
  have k2 := key 2
  have k3 := key 3
  rw [Nat.add_zero] at k0
  refine ⟨⟨?_, ?_⟩, ?_, ?_⟩
  · rw [k0]; exact inN_wf w0
  · rw [k1]; exact inN_wf w1
  · refine List.all_eq_true.2 fun i hi => ?_
    rw [k2] at hi
    exact decide_eq_true (sl_u8 s2 k2 i (List.mem_range.1 hi))
  · refine List.all_eq_true.2 fun i hi => ?_
    rw [k3] at hi
    exact sl_i64 s3 k3 i (List.mem_range.1 hi)
end Go.Proofs.YtankmgnjkcgpaaaDoor

