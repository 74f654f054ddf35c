/- Raw: number, read, marks. -/
import Derived.Test.YtankmgnjkcgpaaaDoorQcC
import Derived.Test.YtankmgnjkcgpaaaDoorQaC
import Derived.Lib.ItoaLen
set_option linter.unusedSimpArgs false
set_option linter.unusedVariables false
set_option maxRecDepth 100000
namespace Go.Proofs.YtankmgnjkcgpaaaDoor
open Go.Sx

open RawR
def nuX (H : List Ent) : List Ent := sentEnts 24 194 (textsIn 24 H [20, 21])
def prV (n : Int) (b : Bool) : SV := .tup [(false, .vi .i64 fun _ => n), (false, .vb fun _ => b)]
theorem puR_le : ∀ (r : List UInt8) (a : Nat), a ≤ 65535 → (puR a r).1 ≤ 65535
  | [], a, h => h
  | c :: r, a, h => by
    rw [puR]
    split
    · split
      · simp
      · exact puR_le r _ (by omega)
    · simp
theorem numV_le (s : List UInt8) : 0 ≤ numV s ∧ numV s ≤ 65535 := by
  unfold numV puN
  split
  · simp
  · have := puR_le s 0 (by omega); omega
theorem puN_ne {s : List UInt8} (h : (puN s).2 = 0) : s ≠ [] := by rintro rfl; simp [puN] at h
theorem spT' (s sep : List UInt8) (a b : Int) (h : sep = [sep.headD 0]) (ha : a = 0) (hb : b = -1) (hs : s.length ≤ 1000000) : RunsTo Tryd.prog 76 [.code (bodyOf Tryd.f76)] (envOf [vS s, vS sep, vN a, vN b] Tryd.f76.ntmps) (Sx.look []) 80 (vL 141 1 (splitR (sep.headD 0) s).length) (Sx.look (txE true 141 (splitR (sep.headD 0) s).length (splitR (sep.headD 0) s))) 145 := by
  subst ha; subst hb
  have := spT (sep.headD 0) s hs
  rw [← h] at this
  exact this
def spP : PC := { args := [.v (.vs 0), .v (.vs 1), .v (.vi .i64 2), .v (.vi .i64 3)], heap := [], gs := [], G := 24, tp := 194, n := 80, n' := 145, cond := fun e => decide (eS e 1 [] = [(eS e 1 []).headD 0]) && (decide (eI e 2 [] = 0) && (decide (eI e 3 [] = -1) && decide ((eS e 0 []).length ≤ 1000000))), v := fun e => vL 141 1 (splitR ((eS e 1 []).headD 0) (eS e 0 [])).length, post := fun e => txE true 141 (splitR ((eS e 1 []).headD 0) (eS e 0 [])).length (splitR ((eS e 1 []).headD 0) (eS e 0 [])) }
theorem spP_pc : PC.Runs Tryd.prog 76 Tryd.f76 (bodyOf Tryd.f76) spP := ⟨Tryd.func76, by kernel_rfl, (fun g hg => by first | (cases hg; done) | (revert g; show ∀ g ∈ ([] : List Nat), g < 24; decide)), fun e H hc => by
  have hc : (decide (eS e 1 [] = [(eS e 1 []).headD 0]) && (decide (eI e 2 [] = 0) && (decide (eI e 3 [] = -1) && decide ((eS e 0 []).length ≤ 1000000)))) = true := hc
  try simp only [Bool.and_eq_true, decide_eq_true_eq, Nat.beq_eq] at hc
  exact spT' (eS e 0 []) (eS e 1 []) (eI e 2 []) (eI e 3 []) hc.1 hc.2.1 hc.2.2.1 hc.2.2.2⟩
theorem nu0_p0 (H : List Ent) (s : List UInt8) :
    isEnd (evTill Tryd.prog sumsU0 300 (99) 900 88 [.code (bodyOf Tryd.f88)] (envOf [vS s] Tryd.f88.ntmps) (nuX H ++ ([])) ⟨[.s true, .f, .t, .s false], 80⟩) (endP ([]) (prV (numV s) (numOK s)) ([]) 150) =
    (OkL [(decide ((10 : Int) = (10 : Int)) && (decide ((16 : Int) = (16 : Int)) && (decide (s.length ≤ (1000000 : Nat)) && decide ((puN s).2 = (0 : Nat)))), true), (decide ((↑s.length : Int) ≤ (4 : Int)), false)] ∧ (numV s = IntKind.i64.wrap (numV s) ∧ numOK s = false ∧ True) ∧ True) := by kernel_rfl
theorem nu0_p1 (H : List Ent) (s : List UInt8) :
    isEnd (evTill Tryd.prog sumsU0 300 (99) 900 88 [.code (bodyOf Tryd.f88)] (envOf [vS s] Tryd.f88.ntmps) (nuX H ++ ([])) ⟨[.s true, .f, .t, .s true, .s false, .s true], 80⟩) (endP ([]) (prV (numV s) (numOK s)) ([]) 150) =
    (OkL [(decide ((10 : Int) = (10 : Int)) && (decide ((16 : Int) = (16 : Int)) && (decide (s.length ≤ (1000000 : Nat)) && decide ((puN s).2 = (0 : Nat)))), true), (decide ((↑s.length : Int) ≤ (4 : Int)), true), ((↑s.length : Int) == (1 : Int), false), (decide ((0 : Int) ≤ (0 : Int) ∧ (0 : Int) < (↑s.length : Int)), true)] ∧ (numV s = IntKind.i64.wrap (numV s) ∧ numOK s = ((↑(s.getD (0 : Nat) (0 : UInt8)).toNat : Int) != (48 : Int)) ∧ True) ∧ True) := by kernel_rfl
theorem nu0_p2 (H : List Ent) (s : List UInt8) :
    isEnd (evTill Tryd.prog sumsU0 300 (99) 900 88 [.code (bodyOf Tryd.f88)] (envOf [vS s] Tryd.f88.ntmps) (nuX H ++ ([])) ⟨[.s true, .f, .t, .s true, .s true], 80⟩) (endP ([]) (prV (numV s) (numOK s)) ([]) 150) =
    (OkL [(decide ((10 : Int) = (10 : Int)) && (decide ((16 : Int) = (16 : Int)) && (decide (s.length ≤ (1000000 : Nat)) && decide ((puN s).2 = (0 : Nat)))), true), (decide ((↑s.length : Int) ≤ (4 : Int)), true), ((↑s.length : Int) == (1 : Int), true)] ∧ (numV s = IntKind.i64.wrap (numV s) ∧ numOK s = true ∧ True) ∧ True) := by kernel_rfl

set_option maxHeartbeats 4000000 in
theorem nu0 (H : List Ent) (s : List UInt8) (hl : s.length ≤ 1000000) (h : (puN s).2 = 0)  :
    RunsTo Tryd.prog 88 [.code (bodyOf Tryd.f88)] (envOf [vS s] Tryd.f88.ntmps) (Sx.look (nuX H ++ ([]))) 80 (prV (numV s) (numOK s)) (Sx.look ([])) 150 := by
  have hb := numV_le s
  have hw : IntKind.i64.wrap (numV s) = numV s := wr64 (by omega)
  have hne := puN_ne h
  have hp : 0 < s.length := List.length_pos_iff.2 hne
  have hcc : (s.getD 0 0 ≠ 48) = ¬ (((s.getD 0 0).toNat : Int) = 48) := by rw [eq_iff_iff]; constructor <;> intro h1 h2 <;> apply h1 <;> first | (rw [h2]; rfl) | (apply UInt8.toNat_inj.1; show _ = 48; omega)
  refine bcase (c := (decide ((↑s.length : Int) ≤ (4 : Int)))) (fun gg0 => ?_) (fun gg0 => ?_)
  · refine runs_last baseU0 (Sx.Ends.of (nu0_p0 H s) ⟨?oo, ?rr⟩) (by kernel_rfl) rfl (gtL (by decide)) (by decide)
    case oo =>
      refine (okc ?_ (okc gg0 okn))
      all_goals first | rfl | omega | assumption | (exact ⟨by omega, h⟩) | (exact ⟨rfl, rfl, by omega, h⟩) | (simp only [dT]; exact ⟨by decide, by omega⟩) | ((try simp only [hw, dT, dF]); first | done | omega | assumption | exact ⟨rfl, rfl, by omega, h⟩) | (simp (disch := omega) only [SS, hw]; first | done | omega | assumption) | (simp_all; done) | (simp_all; omega)
    case rr =>
      refine ⟨⟨?_, ?_, trivial⟩, trivial⟩
      · exact hw.symm
      · unfold numOK; rw [h]; rw [Bool.eq_iff_iff]; simp only [hcc, Bool.and_eq_true, Bool.or_eq_true, Bool.false_eq_true, decide_eq_true_eq, decide_eq_false_iff_not, iff_false, iff_true, true_and, bne_iff_ne, beq_iff_eq, Bool.not_eq_true', beq_eq_false_iff_ne] at *; first | done | omega | (simp_all; done) | (simp_all; omega)
  · refine bcase (c := ((↑s.length : Int) == (1 : Int))) (fun gg1 => ?_) (fun gg1 => ?_)
    · refine runs_last baseU0 (Sx.Ends.of (nu0_p1 H s) ⟨?oo, ?rr⟩) (by kernel_rfl) rfl (gtL (by decide)) (by decide)
      case oo =>
        refine (okc ?_ (okc gg0 (okc gg1 (okc ?_ okn))))
        all_goals first | rfl | omega | assumption | (exact ⟨by omega, h⟩) | (exact ⟨rfl, rfl, by omega, h⟩) | (simp only [dT]; exact ⟨by decide, by omega⟩) | ((try simp only [hw, dT, dF]); first | done | omega | assumption | exact ⟨rfl, rfl, by omega, h⟩) | (simp (disch := omega) only [SS, hw]; first | done | omega | assumption) | (simp_all; done) | (simp_all; omega)
      case rr =>
        refine ⟨⟨?_, ?_, trivial⟩, trivial⟩
        · exact hw.symm
        · unfold numOK; rw [h]; rw [Bool.eq_iff_iff]; simp only [hcc, Bool.and_eq_true, Bool.or_eq_true, Bool.false_eq_true, decide_eq_true_eq, decide_eq_false_iff_not, iff_false, iff_true, true_and, bne_iff_ne, beq_iff_eq, Bool.not_eq_true', beq_eq_false_iff_ne] at *; first | done | omega | (simp_all; done) | (simp_all; omega)
    · refine runs_last baseU0 (Sx.Ends.of (nu0_p2 H s) ⟨?oo, ?rr⟩) (by kernel_rfl) rfl (gtL (by decide)) (by decide)
      case oo =>
        refine (okc ?_ (okc gg0 (okc gg1 okn)))
        all_goals first | rfl | omega | assumption | (exact ⟨by omega, h⟩) | (exact ⟨rfl, rfl, by omega, h⟩) | (simp only [dT]; exact ⟨by decide, by omega⟩) | ((try simp only [hw, dT, dF]); first | done | omega | assumption | exact ⟨rfl, rfl, by omega, h⟩) | (simp (disch := omega) only [SS, hw]; first | done | omega | assumption) | (simp_all; done) | (simp_all; omega)
      case rr =>
        refine ⟨⟨?_, ?_, trivial⟩, trivial⟩
        · exact hw.symm
        · unfold numOK; rw [h]; rw [Bool.eq_iff_iff]; simp only [hcc, Bool.and_eq_true, Bool.or_eq_true, Bool.false_eq_true, decide_eq_true_eq, decide_eq_false_iff_not, iff_false, iff_true, true_and, bne_iff_ne, beq_iff_eq, Bool.not_eq_true', beq_eq_false_iff_ne] at *; first | done | omega | (simp_all; done) | (simp_all; omega)

theorem nu1_p0 (H : List Ent) (s : List UInt8) :
    isEnd (evTill Tryd.prog sumsU1 300 (99) 900 88 [.code (bodyOf Tryd.f88)] (envOf [vS s] Tryd.f88.ntmps) (nuX H ++ ([])) ⟨[.s true, .t, .s true, .f], 80⟩) (endP ([]) (prV (numV s) (numOK s)) ([]) 150) =
    (OkL [(decide ((10 : Int) = (10 : Int)) && (decide ((16 : Int) = (16 : Int)) && (decide (s.length ≤ (1000000 : Nat)) && decide ((puN s).2 = (1 : Nat)))), true), (s.length.ble (1000000 : Nat), true)] ∧ (numV s = IntKind.i64.wrap (numV s) ∧ numOK s = false ∧ True) ∧ True) := by kernel_rfl

set_option maxHeartbeats 4000000 in
theorem nu1 (H : List Ent) (s : List UInt8) (hl : s.length ≤ 1000000) (h : (puN s).2 = 1)  :
    RunsTo Tryd.prog 88 [.code (bodyOf Tryd.f88)] (envOf [vS s] Tryd.f88.ntmps) (Sx.look (nuX H ++ ([]))) 80 (prV (numV s) (numOK s)) (Sx.look ([])) 150 := by
  have hb := numV_le s
  have hw : IntKind.i64.wrap (numV s) = numV s := wr64 (by omega)
  refine runs_last baseU1 (Sx.Ends.of (nu1_p0 H s) ⟨?oo, ?rr⟩) (by kernel_rfl) rfl (gtL (by decide)) (by decide)
  case oo =>
    refine (okc ?_ (okc ?_ okn))
    all_goals first | rfl | omega | assumption | (exact ⟨by omega, h⟩) | (exact ⟨rfl, rfl, by omega, h⟩) | (simp only [dT]; exact ⟨by decide, by omega⟩) | ((try simp only [hw, dT, dF]); first | done | omega | assumption | exact ⟨rfl, rfl, by omega, h⟩) | (simp (disch := omega) only [SS, hw]; first | done | omega | assumption) | (simp_all; done) | (simp_all; omega)
  case rr =>
    refine ⟨⟨?_, ?_, trivial⟩, trivial⟩
    · exact hw.symm
    · unfold numOK; rw [h]; rfl

theorem nu2_p0 (H : List Ent) (s : List UInt8) :
    isEnd (evTill Tryd.prog sumsU2 300 (99) 900 88 [.code (bodyOf Tryd.f88)] (envOf [vS s] Tryd.f88.ntmps) (nuX H ++ ([])) ⟨[.s true, .t, .s true, .f], 80⟩) (endP ([]) (prV (numV s) (numOK s)) ([]) 150) =
    (OkL [(decide ((10 : Int) = (10 : Int)) && (decide ((16 : Int) = (16 : Int)) && (decide (s.length ≤ (1000000 : Nat)) && decide ((puN s).2 = (2 : Nat)))), true), (s.length.ble (1000000 : Nat), true)] ∧ (numV s = IntKind.i64.wrap (numV s) ∧ numOK s = false ∧ True) ∧ True) := by kernel_rfl

set_option maxHeartbeats 4000000 in
theorem nu2 (H : List Ent) (s : List UInt8) (hl : s.length ≤ 1000000) (h : (puN s).2 = 2)  :
    RunsTo Tryd.prog 88 [.code (bodyOf Tryd.f88)] (envOf [vS s] Tryd.f88.ntmps) (Sx.look (nuX H ++ ([]))) 80 (prV (numV s) (numOK s)) (Sx.look ([])) 150 := by
  have hb := numV_le s
  have hw : IntKind.i64.wrap (numV s) = numV s := wr64 (by omega)
  refine runs_last baseU2 (Sx.Ends.of (nu2_p0 H s) ⟨?oo, ?rr⟩) (by kernel_rfl) rfl (gtL (by decide)) (by decide)
  case oo =>
    refine (okc ?_ (okc ?_ okn))
    all_goals first | rfl | omega | assumption | (exact ⟨by omega, h⟩) | (exact ⟨rfl, rfl, by omega, h⟩) | (simp only [dT]; exact ⟨by decide, by omega⟩) | ((try simp only [hw, dT, dF]); first | done | omega | assumption | exact ⟨rfl, rfl, by omega, h⟩) | (simp (disch := omega) only [SS, hw]; first | done | omega | assumption) | (simp_all; done) | (simp_all; omega)
  case rr =>
    refine ⟨⟨?_, ?_, trivial⟩, trivial⟩
    · exact hw.symm
    · unfold numOK; rw [h]; rfl

theorem puR_k : ∀ (r : List UInt8) (a : Nat), (puR a r).2 ≤ 2
  | [], a => by simp [puR]
  | c :: r, a => by
    rw [puR]
    split
    · split
      · simp
      · exact puR_k r _
    · simp
theorem nuT (H : List Ent) (s : List UInt8) (hl : s.length ≤ 1000000) : RunsTo Tryd.prog 88 [.code (bodyOf Tryd.f88)] (envOf [vS s] Tryd.f88.ntmps) (Sx.look (nuX H ++ ([]))) 80 (prV (numV s) (numOK s)) (Sx.look []) 150 := by
  have hk : (puN s).2 ≤ 2 := by unfold puN; split; simp; exact puR_k s 0
  match hp : (puN s).2, hk with
  | 0, _ => exact nu0 H s hl hp
  | 1, _ => exact nu1 H s hl hp
  | 2, _ => exact nu2 H s hl hp
def nuP : PC := { args := [.v (.vs 0)], heap := [], gs := [20, 21], G := 24, tp := 194, n := 80, n' := 150, cond := fun e => decide ((eS e 0 []).length ≤ 1000000), v := fun e => prV (numV (eS e 0 [])) (numOK (eS e 0 [])), post := fun e => [] }
theorem nuP_pc : PC.Runs Tryd.prog 88 Tryd.f88 (bodyOf Tryd.f88) nuP := ⟨Tryd.func88, by kernel_rfl, (fun g hg => by first | (cases hg; done) | (revert g; show ∀ g ∈ ([20, 21] : List Nat), g < 24; decide)), fun e H hc => by
  have hc : (decide ((eS e 0 []).length ≤ 1000000)) = true := hc
  try simp only [Bool.and_eq_true, decide_eq_true_eq, Nat.beq_eq] at hc
  exact nuT H (eS e 0 []) hc⟩
theorem idx_hex (c : UInt8) : idxB [48, 49, 50, 51, 52, 53, 54, 55, 56, 57, 97, 98, 99, 100, 101, 102] (c.toNat : Int) = match hi c with | some x => (x : Int) | none => -1 := by
  have : ((List.range 256).all fun n => decide (idxB [48, 49, 50, 51, 52, 53, 54, 55, 56, 57, 97, 98, 99, 100, 101, 102] (n : Int) = match hi (UInt8.ofNat n) with | some x => (x : Int) | none => -1)) = true := by kernel_rfl
  have := of_decide_eq_true (List.all_eq_true.1 this c.toNat (List.mem_range.2 c.toNat_lt))
  rw [UInt8.ofNat_toNat] at this
  exact this
theorem hex_or {x y : Nat} (hx : x < 16) (hy : y < 16) : IntKind.u8.wrap (ior .i64 (ishl .i64 (x : Int) 4) (y : Int)) = ((UInt8.ofNat (16 * x + y)).toNat : Int) := by
  have : ((List.range 16).all fun x => (List.range 16).all fun y => decide (IntKind.u8.wrap (ior .i64 (ishl .i64 (x : Int) 4) (y : Int)) = ((UInt8.ofNat (16 * x + y)).toNat : Int))) = true := by kernel_rfl
  exact of_decide_eq_true (List.all_eq_true.1 (List.all_eq_true.1 this x (List.mem_range.2 hx)) y (List.mem_range.2 hy))
theorem rd0_p0 (x : Nat) :
    isEnd (evTill Tryd.prog [] 300 (99) 900 86 [.code (bodyOf Tryd.f86)] (envOf [vS [45]] Tryd.f86.ntmps) ([] ++ ([])) ⟨[.t], 80⟩) (endP ([((141 : Nat), Rn.nil (1 : Nat))]) (.tup [(false, .vl 141 (fun _ => 0) 1 [] (fun _ => (([] : List UInt8)).length)), (false, .vb fun _ => true)]) (bW 141 ([] : List UInt8)) 145) =
    (OkL [] ∧ ((0 : Nat) = (0 : Nat) ∧ true = true ∧ True) ∧ (0 : Nat) = (0 : Nat)) := by kernel_rfl

set_option maxHeartbeats 4000000 in
theorem rd0 (x : Nat)  :
    RunsTo Tryd.prog 86 [.code (bodyOf Tryd.f86)] (envOf [vS [45]] Tryd.f86.ntmps) (Sx.look ([] ++ ([]))) 80 (.tup [(false, .vl 141 (fun _ => 0) 1 [] (fun _ => (([] : List UInt8)).length)), (false, .vb fun _ => true)]) (Sx.look (bW 141 ([] : List UInt8))) 145 := by
  refine runs_last baseO (Sx.Ends.of (rd0_p0 x) ⟨?oo, ?rr⟩) (by kernel_rfl) rfl (gtL (by decide)) (by decide)
  case oo =>
    refine okn
    all_goals ((try simp (disch := omega) only [SS]); first | done | omega | assumption | (simp (disch := omega) only [SS] at *; first | done | omega | assumption) | (simp_all; done))
  case rr =>
    repeat' apply And.intro
    all_goals first | exact True.intro | with_reducible rfl | rfl | (intro k hk; exact absurd hk (Nat.not_lt_zero _))

theorem rd1_p0 (s : List UInt8) :
    isEnd (evTill Tryd.prog [] 300 (99) 900 86 [.code (bodyOf Tryd.f86)] (envOf [vS s] Tryd.f86.ntmps) ([] ++ ([])) ⟨[.s false, .s false, .t, .s true], 80⟩) (endP ([((141 : Nat), Rn.nil (1 : Nat))]) (.tup [(false, .vl 141 (fun _ => 0) 1 [] (fun _ => (([] : List UInt8)).length)), (false, .vb fun _ => false)]) (bW 141 ([] : List UInt8)) 145) =
    (OkL [(s == [(45 : UInt8)], false), (s == [], false), ((↑s.length : Int).tmod (2 : Int) != (0 : Int), true)] ∧ ((0 : Nat) = (0 : Nat) ∧ false = false ∧ True) ∧ (0 : Nat) = (0 : Nat)) := by kernel_rfl
theorem rd1_p1 (s : List UInt8) :
    isEnd (evTill Tryd.prog [] 300 (99) 900 86 [.code (bodyOf Tryd.f86)] (envOf [vS s] Tryd.f86.ntmps) ([] ++ ([])) ⟨[.s false, .s true], 80⟩) (endP ([((141 : Nat), Rn.nil (1 : Nat))]) (.tup [(false, .vl 141 (fun _ => 0) 1 [] (fun _ => (([] : List UInt8)).length)), (false, .vb fun _ => false)]) (bW 141 ([] : List UInt8)) 145) =
    (OkL [(s == [(45 : UInt8)], false), (s == [], true)] ∧ ((0 : Nat) = (0 : Nat) ∧ false = false ∧ True) ∧ (0 : Nat) = (0 : Nat)) := by kernel_rfl

set_option maxHeartbeats 4000000 in
theorem rd1 (s : List UInt8) (h1 : s ≠ [45]) (h2 : s = [] ∨ s.length % 2 ≠ 0) (hl : s.length ≤ 1000000)  :
    RunsTo Tryd.prog 86 [.code (bodyOf Tryd.f86)] (envOf [vS s] Tryd.f86.ntmps) (Sx.look ([] ++ ([]))) 80 (.tup [(false, .vl 141 (fun _ => 0) 1 [] (fun _ => (([] : List UInt8)).length)), (false, .vb fun _ => false)]) (Sx.look (bW 141 ([] : List UInt8))) 145 := by
  have ht : (s.length : Int).tmod 2 = (s.length : Int) % 2 := Int.tmod_eq_emod_of_nonneg (by omega)
  have hz : (s == [45]) = false := beq_eq_false_iff_ne.2 h1
  refine bcase (c := (s == [])) (fun gg0 => ?_) (fun gg0 => ?_)
  · refine runs_last baseO (Sx.Ends.of (rd1_p0 s) ⟨?oo, ?rr⟩) (by kernel_rfl) rfl (gtL (by decide)) (by decide)
    case oo =>
      refine (okc ?_ (okc gg0 (okc ?_ okn)))
      all_goals first | assumption | rfl | (simp_all; done) | (simp only [SS, ht]; rcases h2 with h2 | h2 <;> first | omega | (subst h2; simp; done) | (simp_all; done) | (simp_all; omega))
    case rr =>
      repeat' apply And.intro
      all_goals first | exact True.intro | with_reducible rfl | rfl | (intro k hk; exact absurd hk (Nat.not_lt_zero _))
  · refine runs_last baseO (Sx.Ends.of (rd1_p1 s) ⟨?oo, ?rr⟩) (by kernel_rfl) rfl (gtL (by decide)) (by decide)
    case oo =>
      refine (okc ?_ (okc gg0 okn))
      all_goals first | assumption | rfl | (simp_all; done) | (simp only [SS, ht]; rcases h2 with h2 | h2 <;> first | omega | (subst h2; simp; done) | (simp_all; done) | (simp_all; omega))
    case rr =>
      repeat' apply And.intro
      all_goals first | exact True.intro | with_reducible rfl | rfl | (intro k hk; exact absurd hk (Nat.not_lt_zero _))

theorem rd2_p0 (s : List UInt8) :
    isMore (evTill Tryd.prog [] 300 (behind Tryd.f86 0) 900 86 [.code (bodyOf Tryd.f86)] (envOf [vS s] Tryd.f86.ntmps) ([] ++ ([])) ⟨[.s false, .s false, .t, .s false], 80⟩) (moreP (headOf Tryd.f86 0) ([((101 : Nat), Rn.nil (1 : Nat))]) Tryd.f86.ntmps ([(0, vS s), (4, vL 101 1 (([] : List UInt8)).length), (5, vN (0 : Nat))]) (bW 101 (([] : List UInt8))) 145) =
    (OkL [(s == [(45 : UInt8)], false), (s == [], false), ((↑s.length : Int).tmod (2 : Int) != (0 : Int), false)] ∧ headOf Tryd.f86 (0 : Nat) = headOf Tryd.f86 (0 : Nat) ∧ (s = s ∧ (0 : Nat) = (0 : Nat) ∧ (↑(0 : Nat) : Int) = (0 : Int)) ∧ (0 : Nat) = (0 : Nat)) := by kernel_rfl

set_option maxHeartbeats 4000000 in
theorem rd2 (s : List UInt8) (h1 : s ≠ [45]) (h2 : s ≠ []) (h3 : s.length % 2 = 0) (hl : s.length ≤ 1000000)  (v : SV) (L' : HF) (next : RunsTo Tryd.prog 86 (headOf Tryd.f86 0) (envAt Tryd.f86.ntmps ([(0, vS s), (4, vL 101 1 (([] : List UInt8)).length), (5, vN (0 : Nat))])) (Sx.look ([] ++ (bW 101 (([] : List UInt8))))) 80 (v) (L') 145) :
    RunsTo Tryd.prog 86 [.code (bodyOf Tryd.f86)] (envOf [vS s] Tryd.f86.ntmps) (Sx.look ([] ++ ([]))) 80 (v) (L') 145 := by
  have ht : (s.length : Int).tmod 2 = (s.length : Int) % 2 := Int.tmod_eq_emod_of_nonneg (by omega)
  have hz : (s == [45]) = false := beq_eq_false_iff_ne.2 h1
  have hz2 : (s == []) = false := beq_eq_false_iff_ne.2 h2
  refine runs_more baseO (More.of (rd2_p0 s) ⟨?oo, rfl, ?rr⟩) (by kernel_rfl) (by kernel_rfl) rfl (gtL (by decide)) (by decide) next
  case oo =>
    clear next
    refine (okc ?_ (okc ?_ (okc ?_ okn)))
    all_goals first | assumption | rfl | (simp only [SS, ht]; omega) | (simp_all; done) | (simp_all; omega)
  case rr =>
    clear next
    repeat' apply And.intro
    all_goals first | exact True.intro | with_reducible rfl | rfl | (intro k hk; exact absurd hk (Nat.not_lt_zero _)) | (simp; done)

theorem rd3_p0 (s o : List UInt8) (i : Nat) (a b : UInt8) (x y : Nat) :
    isMore (evTill Tryd.prog [] 300 (behind Tryd.f86 0) 900 86 (headOf Tryd.f86 0) (envAt Tryd.f86.ntmps ([(0, vS s), (4, vL 101 1 (o).length), (5, vN (i : Nat))])) ([] ++ (bW 101 (o))) ⟨[.s true, .s true, .s true, .s false, .s false, .t, .t, .s true, .s true], 110⟩) (moreP (headOf Tryd.f86 0) ([((101 : Nat), Rn.to (111 : Nat))]) Tryd.f86.ntmps ([(0, vS s), (4, vL 101 1 (o ++ [UInt8.ofNat (16 * x + y)]).length), (5, vN (i + 2 : Nat))]) (bW 101 (o ++ [UInt8.ofNat (16 * x + y)])) 145) =
    (OkL [(decide ((↑i : Int) < (↑s.length : Int)), true), (decide ((0 : Int) ≤ (↑i : Int) ∧ (↑i : Int) < (↑s.length : Int)), true), (decide ((0 : Int) ≤ IntKind.i64.wrap ((↑i : Int) + (1 : Int)) ∧ IntKind.i64.wrap ((↑i : Int) + (1 : Int)) < (↑s.length : Int)), true), (decide (idxB [(48 : UInt8), (49 : UInt8), (50 : UInt8), (51 : UInt8), (52 : UInt8), (53 : UInt8), (54 : UInt8), (55 : UInt8), (56 : UInt8), (57 : UInt8), (97 : UInt8), (98 : UInt8), (99 : UInt8), (100 : UInt8), (101 : UInt8), (102 : UInt8)] (↑(s.getD (↑i : Int).toNat (0 : UInt8)).toNat : Int) < (0 : Int)), false), (decide (idxB [(48 : UInt8), (49 : UInt8), (50 : UInt8), (51 : UInt8), (52 : UInt8), (53 : UInt8), (54 : UInt8), (55 : UInt8), (56 : UInt8), (57 : UInt8), (97 : UInt8), (98 : UInt8), (99 : UInt8), (100 : UInt8), (101 : UInt8), (102 : UInt8)] (↑(s.getD (IntKind.i64.wrap ((↑i : Int) + (1 : Int))).toNat (0 : UInt8)).toNat : Int) < (0 : Int)), false), (((0 : Nat) + o.length).ble o.length, true), (decide (((2 : Nat) * (o.length + (1 : Nat)) + (192 : Nat)) * (1 : Nat) ≤ (281474976710656 : Nat)), true)] ∧ headOf Tryd.f86 (0 : Nat) = headOf Tryd.f86 (0 : Nat) ∧ (s = s ∧ ((0 : Nat) = (0 : Nat) ∧ (o ++ [UInt8.ofNat ((16 : Nat) * x + y)]).length = o.length + (1 : Nat)) ∧ (↑(i + (2 : Nat)) : Int) = IntKind.i64.wrap ((↑i : Int) + (2 : Int))) ∧ (o ++ [UInt8.ofNat ((16 : Nat) * x + y)]).length = o.length + (1 : Nat) ∧ ∀ (i_1 : Nat), i_1 < (o ++ [UInt8.ofNat ((16 : Nat) * x + y)]).length → (↑((o ++ [UInt8.ofNat ((16 : Nat) * x + y)]).getD i_1 (0 : UInt8)).toNat : Int) = appF o.length (0 : Nat) (fun is => (↑(o.getD (List.headD is (0 : Nat)) (0 : UInt8)).toNat : Int)) (fun js => IntKind.u8.wrap (ior IntKind.i64 (ishl IntKind.i64 (idxB [(48 : UInt8), (49 : UInt8), (50 : UInt8), (51 : UInt8), (52 : UInt8), (53 : UInt8), (54 : UInt8), (55 : UInt8), (56 : UInt8), (57 : UInt8), (97 : UInt8), (98 : UInt8), (99 : UInt8), (100 : UInt8), (101 : UInt8), (102 : UInt8)] (↑(s.getD (↑i : Int).toNat (0 : UInt8)).toNat : Int)) (4 : Int)) (idxB [(48 : UInt8), (49 : UInt8), (50 : UInt8), (51 : UInt8), (52 : UInt8), (53 : UInt8), (54 : UInt8), (55 : UInt8), (56 : UInt8), (57 : UInt8), (97 : UInt8), (98 : UInt8), (99 : UInt8), (100 : UInt8), (101 : UInt8), (102 : UInt8)] (↑(s.getD (IntKind.i64.wrap ((↑i : Int) + (1 : Int))).toNat (0 : UInt8)).toNat : Int)))) [i_1]) := by kernel_rfl

set_option maxHeartbeats 4000000 in
theorem rd3 (s o : List UInt8) (i : Nat) (a b : UInt8) (x y : Nat) (hi1 : i + 1 < s.length) (ho : o.length ≤ 1000000) (ha : s.getD i 0 = a) (hb : s.getD (i + 1) 0 = b) (hl : s.length ≤ 1000000) (hx : hi a = some x) (hy : hi b = some y)  (v : SV) (L' : HF) (next : RunsTo Tryd.prog 86 (headOf Tryd.f86 0) (envAt Tryd.f86.ntmps ([(0, vS s), (4, vL 101 1 (o ++ [UInt8.ofNat (16 * x + y)]).length), (5, vN (i + 2 : Nat))])) (Sx.look ([] ++ (bW 101 (o ++ [UInt8.ofNat (16 * x + y)])))) 80 (v) (L') 145) :
    RunsTo Tryd.prog 86 (headOf Tryd.f86 0) (envAt Tryd.f86.ntmps ([(0, vS s), (4, vL 101 1 (o).length), (5, vN (i : Nat))])) (Sx.look ([] ++ (bW 101 (o)))) 80 (v) (L') 145 := by
  have hw : IntKind.i64.wrap ((i : Int) + 2) = ((i + 2 : Nat) : Int) := by rw [wr64 (by omega)]; rfl
  have hw1 : IntKind.i64.wrap ((i : Int) + 1) = ((i + 1 : Nat) : Int) := by rw [wr64 (by omega)]; rfl
  have xa := idx_hex a
  have xb := idx_hex b
  rw [hx] at xa
  rw [hy] at xb
  obtain ⟨x1, x2⟩ := hx_hi hx
  obtain ⟨y1, y2⟩ := hx_hi hy
  have ho2 := hex_or x1 y1
  have hap := app_byte o (UInt8.ofNat (16 * x + y)) (fun _ => IntKind.u8.wrap (ior .i64 (ishl .i64 (x : Int) 4) (y : Int))) ho2
  refine runs_more baseO (More.of (rd3_p0 s o i a b x y) ⟨?oo, rfl, ?rr⟩) (by kernel_rfl) (by kernel_rfl) rfl (gtL (by decide)) (by decide) next
  case oo =>
    clear next
    refine (okc ?_ (okc ?_ (okc ?_ (okc ?_ (okc ?_ (okc ?_ (okc ?_ okn)))))))
    all_goals ((try simp only [hw, hw1, Int.toNat_natCast, ha, hb, xa, xb]); first | done | rfl | omega | (simp (disch := omega) only [SS]; first | done | omega) | (simp only [SS] at *; first | omega | (simp_all; done)) | (simp_all; done) | (simp_all; omega))
  case rr =>
    clear next
    simp only [hw, hw1, Int.toNat_natCast, ha, hb, xa, xb]
    repeat' apply And.intro
    all_goals first | exact True.intro | with_reducible rfl | omega | (simp; done) | (intro k hk; exact hap k (by simpa using hk)) | (intros; simp_all; done) | rfl

theorem rd4_p0 (s o : List UInt8) (i : Nat) (a b : UInt8) :
    isEnd (evTill Tryd.prog [] 300 (99) 900 86 (headOf Tryd.f86 0) (envAt Tryd.f86.ntmps ([(0, vS s), (4, vL 101 1 (o).length), (5, vN (i : Nat))])) ([] ++ (bW 101 (o))) ⟨[.s true, .s true, .s true, .s false, .s true], 110⟩) (endP ([((141 : Nat), Rn.nil (1 : Nat))]) (.tup [(false, .vl 141 (fun _ => 0) 1 [] (fun _ => (([] : List UInt8)).length)), (false, .vb fun _ => false)]) (bW 141 ([] : List UInt8)) 145) =
    (OkL [(decide ((↑i : Int) < (↑s.length : Int)), true), (decide ((0 : Int) ≤ (↑i : Int) ∧ (↑i : Int) < (↑s.length : Int)), true), (decide ((0 : Int) ≤ IntKind.i64.wrap ((↑i : Int) + (1 : Int)) ∧ IntKind.i64.wrap ((↑i : Int) + (1 : Int)) < (↑s.length : Int)), true), (decide (idxB [(48 : UInt8), (49 : UInt8), (50 : UInt8), (51 : UInt8), (52 : UInt8), (53 : UInt8), (54 : UInt8), (55 : UInt8), (56 : UInt8), (57 : UInt8), (97 : UInt8), (98 : UInt8), (99 : UInt8), (100 : UInt8), (101 : UInt8), (102 : UInt8)] (↑(s.getD (↑i : Int).toNat (0 : UInt8)).toNat : Int) < (0 : Int)), false), (decide (idxB [(48 : UInt8), (49 : UInt8), (50 : UInt8), (51 : UInt8), (52 : UInt8), (53 : UInt8), (54 : UInt8), (55 : UInt8), (56 : UInt8), (57 : UInt8), (97 : UInt8), (98 : UInt8), (99 : UInt8), (100 : UInt8), (101 : UInt8), (102 : UInt8)] (↑(s.getD (IntKind.i64.wrap ((↑i : Int) + (1 : Int))).toNat (0 : UInt8)).toNat : Int) < (0 : Int)), true)] ∧ ((0 : Nat) = (0 : Nat) ∧ false = false ∧ True) ∧ (0 : Nat) = (0 : Nat)) := by kernel_rfl
theorem rd4_p1 (s o : List UInt8) (i : Nat) (a b : UInt8) :
    isEnd (evTill Tryd.prog [] 300 (99) 900 86 (headOf Tryd.f86 0) (envAt Tryd.f86.ntmps ([(0, vS s), (4, vL 101 1 (o).length), (5, vN (i : Nat))])) ([] ++ (bW 101 (o))) ⟨[.s true, .s true, .s true, .s true], 110⟩) (endP ([((141 : Nat), Rn.nil (1 : Nat))]) (.tup [(false, .vl 141 (fun _ => 0) 1 [] (fun _ => (([] : List UInt8)).length)), (false, .vb fun _ => false)]) (bW 141 ([] : List UInt8)) 145) =
    (OkL [(decide ((↑i : Int) < (↑s.length : Int)), true), (decide ((0 : Int) ≤ (↑i : Int) ∧ (↑i : Int) < (↑s.length : Int)), true), (decide ((0 : Int) ≤ IntKind.i64.wrap ((↑i : Int) + (1 : Int)) ∧ IntKind.i64.wrap ((↑i : Int) + (1 : Int)) < (↑s.length : Int)), true), (decide (idxB [(48 : UInt8), (49 : UInt8), (50 : UInt8), (51 : UInt8), (52 : UInt8), (53 : UInt8), (54 : UInt8), (55 : UInt8), (56 : UInt8), (57 : UInt8), (97 : UInt8), (98 : UInt8), (99 : UInt8), (100 : UInt8), (101 : UInt8), (102 : UInt8)] (↑(s.getD (↑i : Int).toNat (0 : UInt8)).toNat : Int) < (0 : Int)), true)] ∧ ((0 : Nat) = (0 : Nat) ∧ false = false ∧ True) ∧ (0 : Nat) = (0 : Nat)) := by kernel_rfl

set_option maxHeartbeats 4000000 in
theorem rd4 (s o : List UInt8) (i : Nat) (a b : UInt8) (hi1 : i + 1 < s.length) (ho : o.length ≤ 1000000) (ha : s.getD i 0 = a) (hb : s.getD (i + 1) 0 = b) (hl : s.length ≤ 1000000) (hx : hi a = none ∨ hi b = none)  :
    RunsTo Tryd.prog 86 (headOf Tryd.f86 0) (envAt Tryd.f86.ntmps ([(0, vS s), (4, vL 101 1 (o).length), (5, vN (i : Nat))])) (Sx.look ([] ++ (bW 101 (o)))) 80 (.tup [(false, .vl 141 (fun _ => 0) 1 [] (fun _ => (([] : List UInt8)).length)), (false, .vb fun _ => false)]) (Sx.look (bW 141 ([] : List UInt8))) 145 := by
  have hw : IntKind.i64.wrap ((i : Int) + 2) = ((i + 2 : Nat) : Int) := by rw [wr64 (by omega)]; rfl
  have hw1 : IntKind.i64.wrap ((i : Int) + 1) = ((i + 1 : Nat) : Int) := by rw [wr64 (by omega)]; rfl
  have xa := idx_hex a
  have xb := idx_hex b
  have na : (match hi a with | some x => (x : Int) | none => -1) < 0 ↔ hi a = none := by cases hi a <;> simp
  have nb : (match hi b with | some x => (x : Int) | none => -1) < 0 ↔ hi b = none := by cases hi b <;> simp
  rw [← xa] at na
  rw [← xb] at nb
  refine bcase (c := (decide (idxB [(48 : UInt8), (49 : UInt8), (50 : UInt8), (51 : UInt8), (52 : UInt8), (53 : UInt8), (54 : UInt8), (55 : UInt8), (56 : UInt8), (57 : UInt8), (97 : UInt8), (98 : UInt8), (99 : UInt8), (100 : UInt8), (101 : UInt8), (102 : UInt8)] (↑(s.getD (↑i : Int).toNat (0 : UInt8)).toNat : Int) < (0 : Int)))) (fun gg0 => ?_) (fun gg0 => ?_)
  · refine runs_last baseO (Sx.Ends.of (rd4_p0 s o i a b) ⟨?oo, ?rr⟩) (by kernel_rfl) rfl (gtL (by decide)) (by decide)
    case oo =>
      refine (okc ?_ (okc ?_ (okc ?_ (okc gg0 (okc ?_ okn)))))
      all_goals ((try simp only [hw, hw1, Int.toNat_natCast, ha, hb] at *); first | done | assumption | rfl | omega | (simp only [SS] at *; first | omega | (simp_all; done)) | (simp_all; done) | (simp_all; omega))
    case rr =>
      repeat' apply And.intro
      all_goals first | exact True.intro | with_reducible rfl | rfl | (intro k hk; exact absurd hk (Nat.not_lt_zero _))
  · refine runs_last baseO (Sx.Ends.of (rd4_p1 s o i a b) ⟨?oo, ?rr⟩) (by kernel_rfl) rfl (gtL (by decide)) (by decide)
    case oo =>
      refine (okc ?_ (okc ?_ (okc ?_ (okc gg0 okn))))
      all_goals ((try simp only [hw, hw1, Int.toNat_natCast, ha, hb] at *); first | done | assumption | rfl | omega | (simp only [SS] at *; first | omega | (simp_all; done)) | (simp_all; done) | (simp_all; omega))
    case rr =>
      repeat' apply And.intro
      all_goals first | exact True.intro | with_reducible rfl | rfl | (intro k hk; exact absurd hk (Nat.not_lt_zero _))

theorem rd5_p0 (s o : List UInt8) (i : Nat) :
    isEnd (evTill Tryd.prog [] 300 (99) 900 86 (headOf Tryd.f86 0) (envAt Tryd.f86.ntmps ([(0, vS s), (4, vL 101 1 (o).length), (5, vN (i : Nat))])) ([] ++ (bW 101 (o))) ⟨[.s false], 110⟩) (endP ([((141 : Nat), Rn.to (101 : Nat))]) (.tup [(false, .vl 141 (fun _ => 0) 1 [] (fun _ => (o).length)), (false, .vb fun _ => true)]) (bW 141 o) 145) =
    (OkL [(decide ((↑i : Int) < (↑s.length : Int)), false)] ∧ (((0 : Nat) = (0 : Nat) ∧ o.length = o.length) ∧ true = true ∧ True) ∧ o.length = o.length ∧ ∀ (i : Nat), i < o.length → (↑(o.getD i (0 : UInt8)).toNat : Int) = (↑(o.getD i (0 : UInt8)).toNat : Int)) := by kernel_rfl

set_option maxHeartbeats 4000000 in
theorem rd5 (s o : List UInt8) (i : Nat) (hi1 : i = s.length) (hl : s.length ≤ 1000000)  :
    RunsTo Tryd.prog 86 (headOf Tryd.f86 0) (envAt Tryd.f86.ntmps ([(0, vS s), (4, vL 101 1 (o).length), (5, vN (i : Nat))])) (Sx.look ([] ++ (bW 101 (o)))) 80 (.tup [(false, .vl 141 (fun _ => 0) 1 [] (fun _ => (o).length)), (false, .vb fun _ => true)]) (Sx.look (bW 141 o)) 145 := by
  refine runs_last baseO (Sx.Ends.of (rd5_p0 s o i) ⟨?oo, ?rr⟩) (by kernel_rfl) rfl (gtL (by decide)) (by decide)
  case oo =>
    refine (okc ?_ okn)
    all_goals ((try simp (disch := omega) only [SS]); first | done | omega | assumption | (simp (disch := omega) only [SS] at *; first | done | omega | assumption) | (simp_all; done))
  case rr =>
    try simp (disch := omega) only [SS]
    repeat' apply And.intro
    all_goals first | exact True.intro | with_reducible rfl | omega | (intros; first | exact True.intro | with_reducible rfl | omega | (simp_all; done)) | (simp_all; done) | rfl

theorem rdT (s : List UInt8) (hl : s.length ≤ 1000000) : RunsTo Tryd.prog 86 [.code (bodyOf Tryd.f86)] (envOf [vS s] Tryd.f86.ntmps) (Sx.look ([] ++ ([]))) 80 (.tup [(false, .vl 141 (fun _ => 0) 1 [] (fun _ => (readV s).length)), (false, .vb fun _ => readK s)]) (Sx.look (bW 141 (readV s))) 145 := by
  by_cases h1 : s = [45]
  · subst h1; exact rd0 0
  by_cases h2 : s = [] ∨ s.length % 2 ≠ 0
  · have e1 : readV s = [] := by unfold readV readR; rw [if_neg h1, if_pos h2]; rfl
    have e2 : readK s = false := by unfold readK readR; rw [if_neg h1, if_pos h2]; rfl
    rw [e1, e2]
    exact rd1 s h1 h2 hl
  have h3 : s ≠ [] ∧ s.length % 2 = 0 := by
    constructor
    · intro e; exact h2 (.inl e)
    · rcases Nat.lt_or_ge 0 (s.length % 2) with h | h
      · exact absurd (.inr (by omega)) h2
      · omega
  refine rd2 s h1 h3.1 h3.2 hl _ _ ?_
  have er : readR s = pairR s := by unfold readR; rw [if_neg h1, if_neg h2]
  suffices q : ∀ (k i : Nat) (o : List UInt8), i + 2 * k = s.length → o.length ≤ i → pairR s = (pairR (s.drop i)).map (o ++ ·) → RunsTo Tryd.prog 86 (headOf Tryd.f86 0) (envAt Tryd.f86.ntmps ([(0, vS s), (4, vL 101 1 (o).length), (5, vN (i : Nat))])) (Sx.look ([] ++ (bW 101 (o)))) 80 (.tup [(false, .vl 141 (fun _ => 0) 1 [] (fun _ => (readV s).length)), (false, .vb fun _ => readK s)]) (Sx.look (bW 141 (readV s))) 145 from by
    refine q (s.length / 2) 0 [] (by omega) (by simp) ?_
    rw [List.drop_zero]; cases pairR s <;> rfl
  intro k
  induction k with
  | zero =>
    intro i o hi ho hp
    rw [List.drop_eq_nil_of_le (by omega)] at hp
    have hp : pairR s = some o := by rw [hp]; simp [pairR]
    have e1 : readV s = o := by unfold readV; rw [er, hp]; rfl
    have e2 : readK s = true := by unfold readK; rw [er, hp]; rfl
    rw [e1, e2]
    exact rd5 s o i (by omega) hl
  | succ k ih =>
    intro i o hi ho hp
    rw [drop_at s (show i < s.length by omega), drop_at s (show i + 1 < s.length by omega)] at hp
    generalize ha : s.getD i 0 = a at hp
    generalize hb : s.getD (i + 1) 0 = b at hp
    rw [pairR] at hp
    by_cases hx : RawR.hi a = none ∨ RawR.hi b = none
    · have hn : pairR s = none := by
        rw [hp]
        rcases hx with hx | hx
        · rw [hx]; rfl
        · rw [hx]; cases RawR.hi a <;> rfl
      have e1 : readV s = [] := by unfold readV; rw [er, hn]; rfl
      have e2 : readK s = false := by unfold readK; rw [er, hn]; rfl
      rw [e1, e2]
      exact rd4 s o i a b (by omega) (by omega) ha hb hl hx
    · cases hxa : RawR.hi a with
      | none => exact absurd (.inl hxa) hx
      | some x =>
        cases hxb : RawR.hi b with
        | none => exact absurd (.inr hxb) hx
        | some y =>
          rw [hxa, hxb] at hp
          refine rd3 s o i a b x y (by omega) (by omega) ha hb hl hxa hxb _ _ (ih (i + 2) _ (by omega) (by simp; omega) ?_)
          rw [hp, show i + 1 + 1 = i + 2 by omega]
          cases pairR (s.drop (i + 2)) <;> simp
def rdP : PC := { args := [.v (.vs 0)], heap := [], gs := [], G := 24, tp := 194, n := 80, n' := 145, cond := fun e => decide ((eS e 0 []).length ≤ 1000000), v := fun e => .tup [(false, .vl 141 (fun _ => 0) 1 [] (fun _ => (readV (eS e 0 [])).length)), (false, .vb fun _ => readK (eS e 0 []))], post := fun e => bW 141 (readV (eS e 0 [])) }
theorem rdP_pc : PC.Runs Tryd.prog 86 Tryd.f86 (bodyOf Tryd.f86) rdP := ⟨Tryd.func86, by kernel_rfl, (fun g hg => by first | (cases hg; done) | (revert g; show ∀ g ∈ ([] : List Nat), g < 24; decide)), fun e H hc => by
  have hc : (decide ((eS e 0 []).length ≤ 1000000)) = true := hc
  try simp only [Bool.and_eq_true, decide_eq_true_eq, Nat.beq_eq] at hc
  exact rdT (eS e 0 []) hc⟩
def sumsMK : List (FuncId × Summ) := [(76, spP.summ 48), (88, nuP.summ 48)]
theorem baseMK : Base0 Tryd.prog sumsMK := ((baseO.cons Tryd.func88 (by kernel_rfl) (PC.summ_ok nuP_pc gtopG)).cons Tryd.func76 (by kernel_rfl) (PC.summ_ok spP_pc gtopG))
theorem mk0_p0 (H : List Ent) (s : List UInt8) :
    isMore (evTill Tryd.prog sumsMK 400 (behind Tryd.f87 0) 900 87 [.code (bodyOf Tryd.f87)] (envOf [vS s] Tryd.f87.ntmps) (nuX H ++ ([])) ⟨[.s true], 80⟩) (moreP (headOf Tryd.f87 0) ([((103 : Nat), Rn.nil (1 : Nat)), ((101 : Nat), Rn.to (141 : Nat))]) Tryd.f87.ntmps ([(4, vL 103 1 (([] : List Int)).length), (10, vL 101 1 (splitR 44 s).length), (11, vN (splitR 44 s).length), (12, vN (0 : Nat))]) (txE true 101 (splitR 44 s).length (splitR 44 s) ++ iW 103 (([] : List Int))) 190) =
    (OkL [(decide ([(44 : UInt8)] = [#[(44 : UInt8)].toList.headD (0 : UInt8)]) && (decide ((0 : Int) = (0 : Int)) && (decide ((-1 : Int) = (-1 : Int)) && decide (s.length ≤ (1000000 : Nat)))), true)] ∧ headOf Tryd.f87 (0 : Nat) = headOf Tryd.f87 (0 : Nat) ∧ ((0 : Nat) = (0 : Nat) ∧ ((0 : Nat) = (0 : Nat) ∧ (splitR (44 : UInt8) s).length = (splitR (#[(44 : UInt8)].toList.headD (0 : UInt8)) s).length) ∧ (↑(splitR (44 : UInt8) s).length : Int) = (↑(splitR (#[(44 : UInt8)].toList.headD (0 : UInt8)) s).length : Int) ∧ (↑(0 : Nat) : Int) = (0 : Int)) ∧ ((splitR (44 : UInt8) s).length = (splitR (#[(44 : UInt8)].toList.headD (0 : UInt8)) s).length ∧ ∀ (i : Nat), i < (splitR (44 : UInt8) s).length → (splitR (44 : UInt8) s).getD i [] = (splitR (#[(44 : UInt8)].toList.headD (0 : UInt8)) s).getD i []) ∧ (0 : Nat) = (0 : Nat)) := by kernel_rfl

set_option maxHeartbeats 4000000 in
theorem mk0 (H : List Ent) (s : List UInt8) (hl : s.length ≤ 1000000)  (v : SV) (L' : HF) (next : RunsTo Tryd.prog 87 (headOf Tryd.f87 0) (envAt Tryd.f87.ntmps ([(4, vL 103 1 (([] : List Int)).length), (10, vL 101 1 (splitR 44 s).length), (11, vN (splitR 44 s).length), (12, vN (0 : Nat))])) (Sx.look (nuX H ++ (txE true 101 (splitR 44 s).length (splitR 44 s) ++ iW 103 (([] : List Int))))) 80 (v) (L') 190) :
    RunsTo Tryd.prog 87 [.code (bodyOf Tryd.f87)] (envOf [vS s] Tryd.f87.ntmps) (Sx.look (nuX H ++ ([]))) 80 (v) (L') 190 := by
  refine runs_more baseMK (More.of (mk0_p0 H s) ⟨?oo, rfl, ?rr⟩) (by kernel_rfl) (by kernel_rfl) rfl (gtL (by decide)) (by decide) next
  case oo =>
    clear next
    refine (okc ?_ okn)
    all_goals first | rfl | assumption | (simp only [SS]; first | exact ⟨by decide, rfl, rfl, hl⟩ | omega | done | (simp_all; done)) | (simp_all; done)
  case rr =>
    clear next
    repeat' apply And.intro
    all_goals first | exact True.intro | with_reducible rfl | rfl | (intro k hk; exact absurd hk (Nat.not_lt_zero _)) | (intros; rfl)

theorem mk1_p0 (H : List Ent) (T : List (List UInt8)) (m : List Int) (i : Nat) (a : List UInt8) :
    isMore (evTill Tryd.prog sumsMK 400 (behind Tryd.f87 0) 900 87 (headOf Tryd.f87 0) (envAt Tryd.f87.ntmps ([(4, vL 103 1 (m).length), (10, vL 101 1 (T).length), (11, vN (T).length), (12, vN (i : Nat))])) (nuX H ++ (txE true 101 (T).length (T) ++ iW 103 (m))) ⟨[.s true, .s true, .s true, .s true, .s true, .s false, .t, .s true, .s true], 110⟩) (moreP (headOf Tryd.f87 0) ([((103 : Nat), Rn.to (181 : Nat))]) Tryd.f87.ntmps ([(4, vL 103 1 (m ++ [numV a]).length), (10, vL 101 1 (T).length), (11, vN (T).length), (12, vN (i + 1 : Nat))]) (txE true 101 (T).length (T) ++ iW 103 (m ++ [numV a])) 190) =
    (OkL [(decide ((↑i : Int) < (↑T.length : Int)), true), (decide ((0 : Int) ≤ (↑i : Int) ∧ (↑i : Int) < (↑T.length : Int)), true), (((0 : Nat) + (↑i : Int).toNat).blt T.length, true), (((0 : Nat) + (↑i : Int).toNat).blt T.length, true), (decide ((T.getD ((0 : Nat) + (↑i : Int).toNat) []).length ≤ (1000000 : Nat)), true), (!numOK (T.getD ((0 : Nat) + (↑i : Int).toNat) []), false), (((0 : Nat) + m.length).ble m.length, true), (decide (((2 : Nat) * (m.length + (1 : Nat)) + (192 : Nat)) * (8 : Nat) ≤ (281474976710656 : Nat)), true)] ∧ headOf Tryd.f87 (0 : Nat) = headOf Tryd.f87 (0 : Nat) ∧ (((0 : Nat) = (0 : Nat) ∧ (m ++ [numV a]).length = m.length + (1 : Nat)) ∧ ((0 : Nat) = (0 : Nat) ∧ T.length = T.length) ∧ (↑T.length : Int) = (↑T.length : Int) ∧ (↑(i + (1 : Nat)) : Int) = IntKind.i64.wrap ((↑i : Int) + (1 : Int))) ∧ (T.length = T.length ∧ ∀ (i : Nat), i < T.length → T.getD i [] = T.getD i []) ∧ (m ++ [numV a]).length = m.length + (1 : Nat) ∧ ∀ (i_1 : Nat), i_1 < (m ++ [numV a]).length → (m ++ [numV a]).getD i_1 (0 : Int) = appF m.length (0 : Nat) (fun is => m.getD (List.headD is (0 : Nat)) (0 : Int)) (fun js => numV (T.getD ((0 : Nat) + (↑i : Int).toNat) [])) [i_1]) := by kernel_rfl

set_option maxHeartbeats 4000000 in
theorem mk1 (H : List Ent) (T : List (List UInt8)) (m : List Int) (i : Nat) (a : List UInt8) (hi : i < T.length) (hT : T.length ≤ 2000000) (hm : m.length ≤ 2000000) (ha : T.getD i [] = a) (hal : a.length ≤ 1000000) (hk : numOK a = true)  (v : SV) (L' : HF) (next : RunsTo Tryd.prog 87 (headOf Tryd.f87 0) (envAt Tryd.f87.ntmps ([(4, vL 103 1 (m ++ [numV a]).length), (10, vL 101 1 (T).length), (11, vN (T).length), (12, vN (i + 1 : Nat))])) (Sx.look (nuX H ++ (txE true 101 (T).length (T) ++ iW 103 (m ++ [numV a])))) 80 (v) (L') 190) :
    RunsTo Tryd.prog 87 (headOf Tryd.f87 0) (envAt Tryd.f87.ntmps ([(4, vL 103 1 (m).length), (10, vL 101 1 (T).length), (11, vN (T).length), (12, vN (i : Nat))])) (Sx.look (nuX H ++ (txE true 101 (T).length (T) ++ iW 103 (m)))) 80 (v) (L') 190 := by
  have hw : IntKind.i64.wrap ((i : Int) + 1) = ((i + 1 : Nat) : Int) := by rw [wr64 (by omega)]; rfl
  have hi0 : 0 + ((i : Nat) : Int).toNat = i := by simp
  have hap := app_get (fun x : Int => x) 0 m [numV a] (fun _ => numV a) (fun j hj => by obtain rfl : j = 0 := (by simp at hj; omega); rfl)
  refine runs_more baseMK (More.of (mk1_p0 H T m i a) ⟨?oo, rfl, ?rr⟩) (by kernel_rfl) (by kernel_rfl) rfl (gtL (by decide)) (by decide) next
  case oo =>
    clear next
    refine (okc ?_ (okc ?_ (okc ?_ (okc ?_ (okc ?_ (okc ?_ (okc ?_ (okc ?_ okn))))))))
    all_goals ((try simp only [hi0, List.headD_cons, ha, hk]); first | done | rfl | omega | assumption | (simp (disch := omega) only [SS]; first | done | omega | assumption) | (simp_all; done) | (simp_all; omega))
  case rr =>
    clear next
    simp only [hw, hi0, List.headD_cons, ha]
    repeat' apply And.intro
    all_goals first | exact True.intro | with_reducible rfl | omega | (simp; done) | (intro k hk; exact hap k (by simpa using hk)) | (intros; simp_all; done) | rfl

theorem mk2_p0 (H : List Ent) (T : List (List UInt8)) (m : List Int) (i : Nat) (a : List UInt8) :
    isEnd (evTill Tryd.prog sumsMK 400 (99) 900 87 (headOf Tryd.f87 0) (envAt Tryd.f87.ntmps ([(4, vL 103 1 (m).length), (10, vL 101 1 (T).length), (11, vN (T).length), (12, vN (i : Nat))])) (nuX H ++ (txE true 101 (T).length (T) ++ iW 103 (m))) ⟨[.s true, .s true, .s true, .s true, .s true, .s true], 110⟩) (endP ([((141 : Nat), Rn.nil (1 : Nat))]) (.tup [(false, .vl 141 (fun _ => 0) 1 [] (fun _ => (([] : List Int)).length)), (false, .vb fun _ => false)]) (iW 141 ([] : List Int)) 190) =
    (OkL [(decide ((↑i : Int) < (↑T.length : Int)), true), (decide ((0 : Int) ≤ (↑i : Int) ∧ (↑i : Int) < (↑T.length : Int)), true), (((0 : Nat) + (↑i : Int).toNat).blt T.length, true), (((0 : Nat) + (↑i : Int).toNat).blt T.length, true), (decide ((T.getD ((0 : Nat) + (↑i : Int).toNat) []).length ≤ (1000000 : Nat)), true), (!numOK (T.getD ((0 : Nat) + (↑i : Int).toNat) []), true)] ∧ ((0 : Nat) = (0 : Nat) ∧ false = false ∧ True) ∧ (0 : Nat) = (0 : Nat)) := by kernel_rfl

set_option maxHeartbeats 4000000 in
theorem mk2 (H : List Ent) (T : List (List UInt8)) (m : List Int) (i : Nat) (a : List UInt8) (hi : i < T.length) (hT : T.length ≤ 2000000) (hm : m.length ≤ 2000000) (ha : T.getD i [] = a) (hal : a.length ≤ 1000000) (hk : numOK a = false)  :
    RunsTo Tryd.prog 87 (headOf Tryd.f87 0) (envAt Tryd.f87.ntmps ([(4, vL 103 1 (m).length), (10, vL 101 1 (T).length), (11, vN (T).length), (12, vN (i : Nat))])) (Sx.look (nuX H ++ (txE true 101 (T).length (T) ++ iW 103 (m)))) 80 (.tup [(false, .vl 141 (fun _ => 0) 1 [] (fun _ => (([] : List Int)).length)), (false, .vb fun _ => false)]) (Sx.look (iW 141 ([] : List Int))) 190 := by
  have hw : IntKind.i64.wrap ((i : Int) + 1) = ((i + 1 : Nat) : Int) := by rw [wr64 (by omega)]; rfl
  have hi0 : 0 + ((i : Nat) : Int).toNat = i := by simp
  refine runs_last baseMK (Sx.Ends.of (mk2_p0 H T m i a) ⟨?oo, ?rr⟩) (by kernel_rfl) rfl (gtL (by decide)) (by decide)
  case oo =>
    refine (okc ?_ (okc ?_ (okc ?_ (okc ?_ (okc ?_ (okc ?_ okn))))))
    all_goals ((try simp only [hi0, List.headD_cons, ha, hk]); first | done | rfl | omega | assumption | (simp (disch := omega) only [SS]; first | done | omega | assumption) | (simp_all; done) | (simp_all; omega))
  case rr =>
    repeat' apply And.intro
    all_goals first | exact True.intro | with_reducible rfl | rfl | (intro k hk; exact absurd hk (Nat.not_lt_zero _))

theorem mk3_p0 (H : List Ent) (T : List (List UInt8)) (m : List Int) (i : Nat) :
    isEnd (evTill Tryd.prog sumsMK 400 (99) 900 87 (headOf Tryd.f87 0) (envAt Tryd.f87.ntmps ([(4, vL 103 1 (m).length), (10, vL 101 1 (T).length), (11, vN (T).length), (12, vN (i : Nat))])) (nuX H ++ (txE true 101 (T).length (T) ++ iW 103 (m))) ⟨[.s false], 110⟩) (endP ([((141 : Nat), Rn.to (103 : Nat))]) (.tup [(false, .vl 141 (fun _ => 0) 1 [] (fun _ => (m).length)), (false, .vb fun _ => true)]) (iW 141 m) 190) =
    (OkL [(decide ((↑i : Int) < (↑T.length : Int)), false)] ∧ (((0 : Nat) = (0 : Nat) ∧ m.length = m.length) ∧ true = true ∧ True) ∧ m.length = m.length ∧ ∀ (i : Nat), i < m.length → m.getD i (0 : Int) = m.getD i (0 : Int)) := by kernel_rfl

set_option maxHeartbeats 4000000 in
theorem mk3 (H : List Ent) (T : List (List UInt8)) (m : List Int) (i : Nat) (hi : i = T.length)  :
    RunsTo Tryd.prog 87 (headOf Tryd.f87 0) (envAt Tryd.f87.ntmps ([(4, vL 103 1 (m).length), (10, vL 101 1 (T).length), (11, vN (T).length), (12, vN (i : Nat))])) (Sx.look (nuX H ++ (txE true 101 (T).length (T) ++ iW 103 (m)))) 80 (.tup [(false, .vl 141 (fun _ => 0) 1 [] (fun _ => (m).length)), (false, .vb fun _ => true)]) (Sx.look (iW 141 m)) 190 := by
  refine runs_last baseMK (Sx.Ends.of (mk3_p0 H T m i) ⟨?oo, ?rr⟩) (by kernel_rfl) rfl (gtL (by decide)) (by decide)
  case oo =>
    refine (okc ?_ okn)
    all_goals ((try simp (disch := omega) only [SS]); first | done | omega | assumption | (simp (disch := omega) only [SS] at *; first | done | omega | assumption) | (simp_all; done))
  case rr =>
    try simp (disch := omega) only [SS]
    repeat' apply And.intro
    all_goals first | exact True.intro | with_reducible rfl | omega | (intros; first | exact True.intro | with_reducible rfl | omega | (simp_all; done)) | (simp_all; done) | rfl

theorem split_mem_len (c : UInt8) : ∀ (s a : List UInt8), a ∈ splitR c s → a.length ≤ s.length
  | [], a, h => by simp [splitR] at h; simp [h]
  | x :: r, a, h => by
    have ih := split_mem_len c r
    unfold splitR at h
    split at h
    · rcases List.mem_cons.1 h with rfl | h
      · simp
      · have := ih a h; simp; omega
    · split at h
      · simp at h; subst h; simp
      · rename_i b l hb
        rcases List.mem_cons.1 h with rfl | h
        · have := ih b (by rw [hb]; simp); simp; omega
        · have := ih a (by rw [hb]; simp [h]); simp; omega
theorem getD_mem' {α : Type} {l : List α} {i : Nat} {d : α} (h : i < l.length) : l.getD i d ∈ l := by
  simp [List.getD_eq_getElem?_getD, List.getElem?_eq_getElem h]
theorem dropT {α : Type} (l : List α) (d : α) {i : Nat} (h : i < l.length) : l.drop i = l.getD i d :: l.drop (i + 1) := by
  rw [List.drop_eq_getElem_cons h]; simp [List.getD_eq_getElem?_getD, List.getElem?_eq_getElem h]
theorem mkT (H : List Ent) (s : List UInt8) (hl : s.length ≤ 1000000) : RunsTo Tryd.prog 87 [.code (bodyOf Tryd.f87)] (envOf [vS s] Tryd.f87.ntmps) (Sx.look (nuX H ++ ([]))) 80 (.tup [(false, .vl 141 (fun _ => 0) 1 [] (fun _ => (marksV s).length)), (false, .vb fun _ => marksK s)]) (Sx.look (iW 141 (marksV s))) 190 := by
  refine mk0 H s hl _ _ ?_
  have hun : marksV s = (numsR (splitR 44 s)).getD [] ∧ marksK s = (numsR (splitR 44 s)).isSome := ⟨rfl, rfl⟩
  rw [hun.1, hun.2]
  have hmem := split_mem_len 44 s
  have hlen := splitR_len 44 s
  have hcl : s.count 44 ≤ s.length := List.count_le_length
  generalize splitR 44 s = T at hmem hlen
  suffices q : ∀ (k i : Nat) (m : List Int), i + k = T.length → m.length ≤ i → numsR T = (numsR (T.drop i)).map (m ++ ·) → RunsTo Tryd.prog 87 (headOf Tryd.f87 0) (envAt Tryd.f87.ntmps ([(4, vL 103 1 (m).length), (10, vL 101 1 (T).length), (11, vN (T).length), (12, vN (i : Nat))])) (Sx.look (nuX H ++ (txE true 101 (T).length (T) ++ iW 103 (m)))) 80 (.tup [(false, .vl 141 (fun _ => 0) 1 [] (fun _ => ((numsR T).getD []).length)), (false, .vb fun _ => (numsR T).isSome)]) (Sx.look (iW 141 ((numsR T).getD []))) 190 from by
    refine q T.length 0 [] (by omega) (by simp) ?_
    rw [List.drop_zero]; cases numsR T <;> rfl
  intro k
  induction k with
  | zero =>
    intro i m hi hm hp
    rw [List.drop_eq_nil_of_le (by omega)] at hp
    have hp : numsR T = some m := by rw [hp]; simp [numsR]
    rw [hp]
    exact mk3 H T m i (by omega)
  | succ k ih =>
    intro i m hi hm hp
    have ham := hmem _ (getD_mem' (d := []) (show i < T.length by omega))
    rw [dropT T [] (show i < T.length by omega), numsR] at hp
    generalize ha : T.getD i [] = a at hp ham
    cases hk : numOK a with
    | false =>
      rw [hk, if_neg (by simp)] at hp
      rw [hp]
      exact mk2 H T m i a (by omega) (by omega) (by omega) ha (by omega) hk
    | true =>
      rw [hk, if_pos rfl] at hp
      refine mk1 H T m i a (by omega) (by omega) (by omega) ha (by omega) hk _ _ (ih (i + 1) _ (by omega) (by simp; omega) ?_)
      rw [hp]
      cases numsR (T.drop (i + 1)) <;> simp
def mkP : PC := { args := [.v (.vs 0)], heap := [], gs := [20, 21], G := 24, tp := 194, n := 80, n' := 190, cond := fun e => decide ((eS e 0 []).length ≤ 1000000), v := fun e => .tup [(false, .vl 141 (fun _ => 0) 1 [] (fun _ => (marksV (eS e 0 [])).length)), (false, .vb fun _ => marksK (eS e 0 []))], post := fun e => iW 141 (marksV (eS e 0 [])) }
theorem mkP_pc : PC.Runs Tryd.prog 87 Tryd.f87 (bodyOf Tryd.f87) mkP := ⟨Tryd.func87, by kernel_rfl, (fun g hg => by first | (cases hg; done) | (revert g; show ∀ g ∈ ([20, 21] : List Nat), g < 24; decide)), fun e H hc => by
  have hc : (decide ((eS e 0 []).length ≤ 1000000)) = true := hc
  try simp only [Bool.and_eq_true, decide_eq_true_eq, Nat.beq_eq] at hc
  exact mkT H (eS e 0 []) hc⟩
end Go.Proofs.YtankmgnjkcgpaaaDoor

set_option linter.unusedSimpArgs false
set_option linter.unusedVariables false
set_option maxRecDepth 100000
namespace Go.Proofs.YtankmgnjkcgpaaaDoor
open Go.Sx

def pwF (F : Ix → Int) : List Ent := [⟨17, false, none, 20, .ta 20 (.vi .u64 F)⟩]
def pwOK (F : Ix → Int) : Bool := (List.range 20).all fun i => decide (F [i] = ((10 ^ i : Nat) : Int))
theorem pwOK_at {F : Ix → Int} {i : Nat} (h : pwOK F = true) (hi : i < 20) : F [i] = ((10 ^ i : Nat) : Int) := of_decide_eq_true (List.all_eq_true.1 h i (List.mem_range.2 hi))
theorem l10_at {L : Nat} (h : L ≤ 64) : ishr .i64 (IntKind.i64.wrap ((L : Int) * 78913)) 18 = ((Lib.l10 L : Nat) : Int) := by
  have : ((List.range 65).all fun L => decide (ishr .i64 (IntKind.i64.wrap ((L : Int) * 78913)) 18 = ((Lib.l10 L : Nat) : Int))) = true := by kernel_rfl
  exact of_decide_eq_true (List.all_eq_true.1 this L (List.mem_range.2 (by omega)))
theorem bytes_fmt (u : Int) (nd : Nat) (F0 : Ix → Int) (h : nd = Lib.nDigits u.toNat) : bytesOf (cpyF nd 1 F0 (dgF u nd)) [] 1 nd = Lib.decDigits u.toNat := by
  rw [Lib.decDigits_eq, ← h]
  unfold bytesOf
  apply List.map_congr_left
  intro j hj
  have hj := List.mem_range.1 hj
  simp only [List.nil_append, cpyF, dgF]
  rw [if_pos (by omega)]
  simp only [List.headD, Nat.add_sub_cancel_left, Int.toNat_natCast]
  simp
theorem bytes_neg (u : Int) (nd : Nat) (F0 : Ix → Int) (h : nd = Lib.nDigits u.toNat) : bytesOf (upd (cpyF nd 1 F0 (dgF u nd)) [0] 45) [] 0 (1 + nd) = 45 :: Lib.decDigits u.toNat := by
  rw [← bytes_fmt u nd F0 h, Nat.add_comm 1 nd]
  unfold bytesOf
  rw [List.range_succ_eq_map, List.map_cons, List.map_map]
  congr 1
  apply List.map_congr_left
  intro j hj
  simp only [Function.comp, List.nil_append, Nat.zero_add, Nat.succ_eq_add_one]
  rw [upd_other _ _ (by simp)]
  rw [Nat.add_comm j 1]
def sumsIA : List (FuncId × Summ) := [(121, lenB)]
theorem baseIA : Base0 Tryd.prog sumsIA := (baseO.cons Tryd.func121 (by kernel_rfl) lenOK)
theorem ndY_p0 (F : Ix → Int) (x : Int) :
    isEnd (evTill Tryd.prog sumsIA 300 (99) 900 107 [.code (bodyOf Tryd.f107)] (envOf [.v (.vi .u64 fun _ => x)] Tryd.f107.ntmps) (pwF F ++ ([])) ⟨[.s true, .t, .s true, .s true, .s true], 80⟩) (endP ([]) (vN (Lib.nDigits x.toNat)) ([]) 90) =
    (OkL [(decide ((0 : Int) ≤ x ∧ x ≤ (18446744073709551615 : Int)), true), (decide ((0 : Int) ≤ ishr IntKind.i64 (IntKind.i64.wrap ((↑(Lib.bitLen x.toNat) : Int) * (78913 : Int))) (18 : Int) ∧ ishr IntKind.i64 (IntKind.i64.wrap ((↑(Lib.bitLen x.toNat) : Int) * (78913 : Int))) (18 : Int) < (↑(20 : Nat) : Int)), true), ((ishr IntKind.i64 (IntKind.i64.wrap ((↑(Lib.bitLen x.toNat) : Int) * (78913 : Int))) (18 : Int)).toNat.blt (20 : Nat), true), (decide (x ≥ F [(ishr IntKind.i64 (IntKind.i64.wrap ((↑(Lib.bitLen x.toNat) : Int) * (78913 : Int))) (18 : Int)).toNat]), true)] ∧ (↑(Lib.nDigits x.toNat) : Int) = IntKind.i64.wrap (ishr IntKind.i64 (IntKind.i64.wrap ((↑(Lib.bitLen x.toNat) : Int) * (78913 : Int))) (18 : Int) + (1 : Int)) ∧ True) := by kernel_rfl

set_option maxHeartbeats 4000000 in
theorem ndY (F : Ix → Int) (x : Int) (hF : pwOK F = true) (h1 : 1 ≤ x) (h2 : x < 18446744073709551616) (hc : ((10 ^ Lib.l10 (Lib.bitLen x.toNat) : Nat) : Int) ≤ x)  :
    RunsTo Tryd.prog 107 [.code (bodyOf Tryd.f107)] (envOf [.v (.vi .u64 fun _ => x)] Tryd.f107.ntmps) (Sx.look (pwF F ++ ([]))) 80 (vN (Lib.nDigits x.toNat)) (Sx.look ([])) 90 := by
  have hL : Lib.bitLen x.toNat ≤ 64 := Lib.bitLen_le x.toNat 64 (Nat.le_refl _) (by omega)
  have hl := l10_at hL
  obtain ⟨e1, e2⟩ := Lib.numDigits_eq x.toNat (by omega) (by omega)
  have ht := pwOK_at hF (show Lib.l10 (Lib.bitLen x.toNat) < 20 by omega)
  refine runs_last baseIA (Sx.Ends.of (ndY_p0 F x) ⟨?oo, ?rr⟩) (by kernel_rfl) rfl (gtL (by decide)) (by decide)
  case oo =>
    refine (okc ?_ (okc ?_ (okc ?_ (okc ?_ okn))))
    all_goals first | omega | (simp (disch := omega) only [SS, hl, ht]; first | done | omega) | (simp_all; done) | (simp_all; omega)
  case rr =>
    refine ⟨?_, trivial⟩
    rw [← e1]
    simp only [hl]
    first | (rw [if_pos (by omega)]; first | (rw [wr64 (by omega)]; push_cast; omega) | (push_cast; omega)) | (rw [if_neg (by omega)]; first | (rw [wr64 (by omega)]; push_cast; omega) | (push_cast; omega))

theorem ndN_p0 (F : Ix → Int) (x : Int) :
    isEnd (evTill Tryd.prog sumsIA 300 (99) 900 107 [.code (bodyOf Tryd.f107)] (envOf [.v (.vi .u64 fun _ => x)] Tryd.f107.ntmps) (pwF F ++ ([])) ⟨[.s true, .t, .s true, .s true, .s false], 80⟩) (endP ([]) (vN (Lib.nDigits x.toNat)) ([]) 90) =
    (OkL [(decide ((0 : Int) ≤ x ∧ x ≤ (18446744073709551615 : Int)), true), (decide ((0 : Int) ≤ ishr IntKind.i64 (IntKind.i64.wrap ((↑(Lib.bitLen x.toNat) : Int) * (78913 : Int))) (18 : Int) ∧ ishr IntKind.i64 (IntKind.i64.wrap ((↑(Lib.bitLen x.toNat) : Int) * (78913 : Int))) (18 : Int) < (↑(20 : Nat) : Int)), true), ((ishr IntKind.i64 (IntKind.i64.wrap ((↑(Lib.bitLen x.toNat) : Int) * (78913 : Int))) (18 : Int)).toNat.blt (20 : Nat), true), (decide (x ≥ F [(ishr IntKind.i64 (IntKind.i64.wrap ((↑(Lib.bitLen x.toNat) : Int) * (78913 : Int))) (18 : Int)).toNat]), false)] ∧ (↑(Lib.nDigits x.toNat) : Int) = IntKind.i64.wrap (ishr IntKind.i64 (IntKind.i64.wrap ((↑(Lib.bitLen x.toNat) : Int) * (78913 : Int))) (18 : Int) + (0 : Int)) ∧ True) := by kernel_rfl

set_option maxHeartbeats 4000000 in
theorem ndN (F : Ix → Int) (x : Int) (hF : pwOK F = true) (h1 : 1 ≤ x) (h2 : x < 18446744073709551616) (hc : ¬ (((10 ^ Lib.l10 (Lib.bitLen x.toNat) : Nat) : Int) ≤ x))  :
    RunsTo Tryd.prog 107 [.code (bodyOf Tryd.f107)] (envOf [.v (.vi .u64 fun _ => x)] Tryd.f107.ntmps) (Sx.look (pwF F ++ ([]))) 80 (vN (Lib.nDigits x.toNat)) (Sx.look ([])) 90 := by
  have hL : Lib.bitLen x.toNat ≤ 64 := Lib.bitLen_le x.toNat 64 (Nat.le_refl _) (by omega)
  have hl := l10_at hL
  obtain ⟨e1, e2⟩ := Lib.numDigits_eq x.toNat (by omega) (by omega)
  have ht := pwOK_at hF (show Lib.l10 (Lib.bitLen x.toNat) < 20 by omega)
  refine runs_last baseIA (Sx.Ends.of (ndN_p0 F x) ⟨?oo, ?rr⟩) (by kernel_rfl) rfl (gtL (by decide)) (by decide)
  case oo =>
    refine (okc ?_ (okc ?_ (okc ?_ (okc ?_ okn))))
    all_goals first | omega | (simp (disch := omega) only [SS, hl, ht]; first | done | omega) | (simp_all; done) | (simp_all; omega)
  case rr =>
    refine ⟨?_, trivial⟩
    rw [← e1]
    simp only [hl]
    first | (rw [if_pos (by omega)]; first | (rw [wr64 (by omega)]; push_cast; omega) | (push_cast; omega)) | (rw [if_neg (by omega)]; first | (rw [wr64 (by omega)]; push_cast; omega) | (push_cast; omega))

theorem ndT (F : Ix → Int) (x : Int) (hF : pwOK F = true) (h1 : 1 ≤ x) (h2 : x < 18446744073709551616) : RunsTo Tryd.prog 107 [.code (bodyOf Tryd.f107)] (envOf [.v (.vi .u64 fun _ => x)] Tryd.f107.ntmps) (Sx.look (pwF F ++ ([]))) 80 (vN (Lib.nDigits x.toNat)) (Sx.look []) 90 := by
  by_cases hc : ((10 ^ Lib.l10 (Lib.bitLen x.toNat) : Nat) : Int) ≤ x
  · exact ndY F x hF h1 h2 hc
  · exact ndN F x hF h1 h2 hc
def ndP : PC := { args := [.v (.vi .u64 0)], heap := [], fams := [], tabs := [⟨17, false, 20, .tn 20 (.vi .u64 9)⟩], gs := [], G := 24, tp := 194, n := 80, n' := 90, cond := fun e => pwOK (eI e 9) && (decide (1 ≤ eI e 0 []) && decide (eI e 0 [] < 18446744073709551616)), v := fun e => vN (Lib.nDigits (eI e 0 []).toNat), post := fun e => [] }
theorem ndP_pc : PC.Runs Tryd.prog 107 Tryd.f107 (bodyOf Tryd.f107) ndP := ⟨Tryd.func107, by kernel_rfl, (fun g hg => by first | (cases hg; done) | (revert g; show ∀ g ∈ ([] : List Nat), g < 24; decide)), fun e H hc => by
  have hc : (pwOK (eI e 9) && (decide (1 ≤ eI e 0 []) && decide (eI e 0 [] < 18446744073709551616))) = true := hc
  try simp only [Bool.and_eq_true, decide_eq_true_eq, Nat.beq_eq] at hc
  exact ndT (eI e 9) (eI e 0 []) hc.1 hc.2.1 hc.2.2⟩
def sumsIB : List (FuncId × Summ) := [(107, ndP.summ 48), (108, fmtB), (106, smlB)]
theorem baseIB : Base0 Tryd.prog sumsIB := (((baseO.cons Tryd.func106 (by kernel_rfl) smlOK).cons Tryd.func108 (by kernel_rfl) fmtOK).cons Tryd.func107 (by kernel_rfl) (PC.summ_ok ndP_pc gtopG))
theorem zftS_p0 (F : Ix → Int) (n : Int) :
    isEnd (evTill Tryd.prog sumsIB 400 (99) 900 92 [.code (bodyOf Tryd.f92)] (envOf [vN n, vN 10] Tryd.f92.ntmps) (pwF F ++ ([])) ⟨[.t, .s true, .s true, .s true], 80⟩) (endP ([]) (vS (Lib.itoa n)) ([]) 110) =
    (OkL [(decide ((0 : Int) ≤ n), true), (decide (n < (100 : Int)), true), (decide ((0 : Int) ≤ n ∧ n ≤ (99 : Int)), true)] ∧ Lib.itoa n = Lib.decDigits n.toNat ∧ True) := by kernel_rfl

set_option maxHeartbeats 4000000 in
theorem zftS (F : Ix → Int) (n : Int) (h : 0 ≤ n ∧ n < 100)  :
    RunsTo Tryd.prog 92 [.code (bodyOf Tryd.f92)] (envOf [vN n, vN 10] Tryd.f92.ntmps) (Sx.look (pwF F ++ ([]))) 80 (vS (Lib.itoa n)) (Sx.look ([])) 110 := by
  have hi : Lib.itoa n = Lib.decDigits n.toNat := if_neg (by omega)
  refine runs_last baseIB (Sx.Ends.of (zftS_p0 F n) ⟨?oo, ?rr⟩) (by kernel_rfl) rfl (gtL (by decide)) (by decide)
  case oo =>
    refine (okc ?_ (okc ?_ (okc ?_ okn)))
    all_goals ((try simp (disch := omega) only [SS, hi]); first | done | omega | assumption | (simp (disch := omega) only [SS, hi] at *; first | done | omega | assumption) | (simp_all; done))
  case rr =>
    refine ⟨?_, trivial⟩
    rw [hi]; try rfl

theorem zftP_p0 (F : Ix → Int) (n : Int) :
    isEnd (evTill Tryd.prog sumsIB 400 (99) 900 92 [.code (bodyOf Tryd.f92)] (envOf [vN n, vN 10] Tryd.f92.ntmps) (pwF F ++ ([])) ⟨[.t, .s true, .s false, .s false, .s true, .s true, .s true, .s true, .s true, .s true, .s true, .s true, .s false, .s true, .s true, .s true], 80⟩) (endP ([]) (vS (Lib.itoa n)) ([]) 110) =
    (OkL [(decide ((0 : Int) ≤ n), true), (decide (n < (100 : Int)), false), (decide (n < (0 : Int)), false), (pwOK F && (decide ((1 : Int) ≤ IntKind.u64.wrap n) && decide (IntKind.u64.wrap n < (18446744073709551616 : Int))), true), (decide ((0 : Int) ≤ IntKind.i64.wrap ((1 : Int) + (↑(Lib.nDigits (IntKind.u64.wrap n).toNat) : Int)) ∧ IntKind.i64.wrap ((1 : Int) + (↑(Lib.nDigits (IntKind.u64.wrap n).toNat) : Int)) ≤ (↑(24 : Nat) : Int)), true), (decide ((0 : Int) ≤ (1 : Int) ∧ (1 : Int) ≤ IntKind.i64.wrap ((1 : Int) + (↑(Lib.nDigits (IntKind.u64.wrap n).toNat) : Int)) ∧ (1 : Int) < (↑(24 : Nat) : Int)), true), (((1 : Nat) + ((IntKind.i64.wrap ((1 : Int) + (↑(Lib.nDigits (IntKind.u64.wrap n).toNat) : Int))).toNat - (1 : Nat))).ble (24 : Nat), true), (decide ((0 : Int) ≤ IntKind.u64.wrap n ∧ IntKind.u64.wrap n < (18446744073709551616 : Int)), true), (decide ((IntKind.u64.wrap n).toNat < (10 : Nat) ^ ((IntKind.i64.wrap ((1 : Int) + (↑(Lib.nDigits (IntKind.u64.wrap n).toNat) : Int))).toNat - (1 : Nat))), true), (decide ((0 : Nat) < (IntKind.i64.wrap ((1 : Int) + (↑(Lib.nDigits (IntKind.u64.wrap n).toNat) : Int))).toNat - (1 : Nat) ∧ (IntKind.i64.wrap ((1 : Int) + (↑(Lib.nDigits (IntKind.u64.wrap n).toNat) : Int))).toNat - (1 : Nat) < (1000 : Nat)), true), ((List.range ((IntKind.i64.wrap ((1 : Int) + (↑(Lib.nDigits (IntKind.u64.wrap n).toNat) : Int))).toNat - (1 : Nat))).all fun j => decide ((0 : Int) ≤ (0 : Int) ∧ (0 : Int) < (256 : Int)), true), (decide (n < (0 : Int)), false), (decide ((0 : Int) ≤ IntKind.i64.wrap ((1 : Int) + (↑(Lib.nDigits (IntKind.u64.wrap n).toNat) : Int)) ∧ IntKind.i64.wrap ((1 : Int) + (↑(Lib.nDigits (IntKind.u64.wrap n).toNat) : Int)) ≤ (↑(24 : Nat) : Int)), true), (decide ((0 : Int) ≤ (1 : Int) ∧ (1 : Int) ≤ IntKind.i64.wrap ((1 : Int) + (↑(Lib.nDigits (IntKind.u64.wrap n).toNat) : Int)) ∧ (1 : Int) < (↑(24 : Nat) : Int)), true), (((1 : Nat) + ((IntKind.i64.wrap ((1 : Int) + (↑(Lib.nDigits (IntKind.u64.wrap n).toNat) : Int))).toNat - (1 : Nat))).ble (24 : Nat), true)] ∧ Lib.itoa n = bytesOf (cpyF ((IntKind.i64.wrap ((1 : Int) + (↑(Lib.nDigits (IntKind.u64.wrap n).toNat) : Int))).toNat - (1 : Nat)) (1 : Nat) (fun x => (0 : Int)) fun is => (↑(Lib.dg (IntKind.u64.wrap n).toNat ((IntKind.i64.wrap ((1 : Int) + (↑(Lib.nDigits (IntKind.u64.wrap n).toNat) : Int))).toNat - (1 : Nat) - (1 : Nat) - List.headD is (0 : Nat))).toNat : Int)) [] (1 : Nat) ((IntKind.i64.wrap ((1 : Int) + (↑(Lib.nDigits (IntKind.u64.wrap n).toNat) : Int))).toNat - (1 : Nat)) ∧ True) := by kernel_rfl

set_option maxHeartbeats 4000000 in
theorem zftP (F : Ix → Int) (n : Int) (hF : pwOK F = true) (h : 100 ≤ n ∧ n < 9223372036854775808)  :
    RunsTo Tryd.prog 92 [.code (bodyOf Tryd.f92)] (envOf [vN n, vN 10] Tryd.f92.ntmps) (Sx.look (pwF F ++ ([]))) 80 (vS (Lib.itoa n)) (Sx.look ([])) 110 := by
  have hi : Lib.itoa n = Lib.decDigits n.toNat := if_neg (by omega)
  have hu : IntKind.u64.wrap n = n := by simp only [IntKind.wrap, IntKind.bits, IntKind.signed]; simp; omega
  have hnd := Lib.nDigits_le20 n.toNat (by omega)
  have hnp := Lib.nDigits_pos n.toNat
  have hnl := Lib.lt_pow_nDigits n.toNat
  have hw : IntKind.i64.wrap (1 + ((Lib.nDigits n.toNat : Nat) : Int)) = ((1 + Lib.nDigits n.toNat : Nat) : Int) := by rw [wr64 (by omega)]; push_cast; omega
  refine runs_last baseIB (Sx.Ends.of (zftP_p0 F n) ⟨?oo, ?rr⟩) (by kernel_rfl) rfl (gtL (by decide)) (by decide)
  case oo =>
    refine (okc ?_ (okc ?_ (okc ?_ (okc ?_ (okc ?_ (okc ?_ (okc ?_ (okc ?_ (okc ?_ (okc ?_ (okc ?_ (okc ?_ (okc ?_ (okc ?_ (okc ?_ okn)))))))))))))))
    all_goals first | omega | assumption | (simp only [Int.toNat_natCast, Nat.add_sub_cancel_left, decide_eq_true_eq, hu, hw]; first | exact hnl | omega | exact ⟨by omega, by omega⟩) |  (simp (disch := omega) only [SS, hu, hw]; first | done | omega | assumption) | (simp only [byteOk]; simp; done) | exact ⟨hF, by omega, by omega⟩ | (simp_all [byteOk]; done) | (simp_all; omega)
  case rr =>
    refine ⟨?_, trivial⟩
    rw [hi]
    try simp only [hu, hw, Int.toNat_natCast, Nat.add_sub_cancel_left]
    exact (bytes_fmt n (Lib.nDigits n.toNat) (fun _ => 0) rfl).symm

theorem zftN_p0 (F : Ix → Int) (n : Int) (u : Int) :
    isEnd (evTill Tryd.prog sumsIB 400 (99) 900 92 [.code (bodyOf Tryd.f92)] (envOf [vN n, vN 10] Tryd.f92.ntmps) (pwF F ++ ([])) ⟨[.t, .s false, .s true, .s true, .s true, .s true, .s true, .s true, .s true, .s true, .s true, .s true, .t, .t, .s true, .s true], 80⟩) (endP ([]) (vS (Lib.itoa n)) ([]) 110) =
    (OkL [(decide ((0 : Int) ≤ n), false), (decide (n < (0 : Int)), true), (pwOK F && (decide ((1 : Int) ≤ IntKind.u64.wrap ((0 : Int) - IntKind.u64.wrap n)) && decide (IntKind.u64.wrap ((0 : Int) - IntKind.u64.wrap n) < (18446744073709551616 : Int))), true), (decide ((0 : Int) ≤ IntKind.i64.wrap ((1 : Int) + (↑(Lib.nDigits (IntKind.u64.wrap ((0 : Int) - IntKind.u64.wrap n)).toNat) : Int)) ∧ IntKind.i64.wrap ((1 : Int) + (↑(Lib.nDigits (IntKind.u64.wrap ((0 : Int) - IntKind.u64.wrap n)).toNat) : Int)) ≤ (↑(24 : Nat) : Int)), true), (decide ((0 : Int) ≤ (1 : Int) ∧ (1 : Int) ≤ IntKind.i64.wrap ((1 : Int) + (↑(Lib.nDigits (IntKind.u64.wrap ((0 : Int) - IntKind.u64.wrap n)).toNat) : Int)) ∧ (1 : Int) < (↑(24 : Nat) : Int)), true), (((1 : Nat) + ((IntKind.i64.wrap ((1 : Int) + (↑(Lib.nDigits (IntKind.u64.wrap ((0 : Int) - IntKind.u64.wrap n)).toNat) : Int))).toNat - (1 : Nat))).ble (24 : Nat), true), (decide ((0 : Int) ≤ IntKind.u64.wrap ((0 : Int) - IntKind.u64.wrap n) ∧ IntKind.u64.wrap ((0 : Int) - IntKind.u64.wrap n) < (18446744073709551616 : Int)), true), (decide ((IntKind.u64.wrap ((0 : Int) - IntKind.u64.wrap n)).toNat < (10 : Nat) ^ ((IntKind.i64.wrap ((1 : Int) + (↑(Lib.nDigits (IntKind.u64.wrap ((0 : Int) - IntKind.u64.wrap n)).toNat) : Int))).toNat - (1 : Nat))), true), (decide ((0 : Nat) < (IntKind.i64.wrap ((1 : Int) + (↑(Lib.nDigits (IntKind.u64.wrap ((0 : Int) - IntKind.u64.wrap n)).toNat) : Int))).toNat - (1 : Nat) ∧ (IntKind.i64.wrap ((1 : Int) + (↑(Lib.nDigits (IntKind.u64.wrap ((0 : Int) - IntKind.u64.wrap n)).toNat) : Int))).toNat - (1 : Nat) < (1000 : Nat)), true), ((List.range ((IntKind.i64.wrap ((1 : Int) + (↑(Lib.nDigits (IntKind.u64.wrap ((0 : Int) - IntKind.u64.wrap n)).toNat) : Int))).toNat - (1 : Nat))).all fun j => decide ((0 : Int) ≤ (0 : Int) ∧ (0 : Int) < (256 : Int)), true), (decide (n < (0 : Int)), true), (decide ((0 : Int) ≤ IntKind.i64.wrap ((1 : Int) + (↑(Lib.nDigits (IntKind.u64.wrap ((0 : Int) - IntKind.u64.wrap n)).toNat) : Int)) ∧ IntKind.i64.wrap ((1 : Int) + (↑(Lib.nDigits (IntKind.u64.wrap ((0 : Int) - IntKind.u64.wrap n)).toNat) : Int)) ≤ (↑(24 : Nat) : Int)), true), (((0 : Nat) + (IntKind.i64.wrap ((1 : Int) + (↑(Lib.nDigits (IntKind.u64.wrap ((0 : Int) - IntKind.u64.wrap n)).toNat) : Int))).toNat).ble (24 : Nat), true)] ∧ Lib.itoa n = bytesOf (upd (cpyF ((IntKind.i64.wrap ((1 : Int) + (↑(Lib.nDigits (IntKind.u64.wrap ((0 : Int) - IntKind.u64.wrap n)).toNat) : Int))).toNat - (1 : Nat)) (1 : Nat) (fun x => (0 : Int)) fun is => (↑(Lib.dg (IntKind.u64.wrap ((0 : Int) - IntKind.u64.wrap n)).toNat ((IntKind.i64.wrap ((1 : Int) + (↑(Lib.nDigits (IntKind.u64.wrap ((0 : Int) - IntKind.u64.wrap n)).toNat) : Int))).toNat - (1 : Nat) - (1 : Nat) - List.headD is (0 : Nat))).toNat : Int)) [(0 : Nat)] (45 : Int)) [] (0 : Nat) (IntKind.i64.wrap ((1 : Int) + (↑(Lib.nDigits (IntKind.u64.wrap ((0 : Int) - IntKind.u64.wrap n)).toNat) : Int))).toNat ∧ True) := by kernel_rfl

set_option maxHeartbeats 4000000 in
theorem zftN (F : Ix → Int) (n : Int) (u : Int) (hF : pwOK F = true) (h : -9223372036854775808 ≤ n ∧ n < 0) (hu : u = -n)  :
    RunsTo Tryd.prog 92 [.code (bodyOf Tryd.f92)] (envOf [vN n, vN 10] Tryd.f92.ntmps) (Sx.look (pwF F ++ ([]))) 80 (vS (Lib.itoa n)) (Sx.look ([])) 110 := by
  have hi : Lib.itoa n = 45 :: Lib.decDigits u.toNat := by unfold Lib.itoa; rw [if_pos (by omega)]; congr 2; omega
  have hz : IntKind.u64.wrap (0 - IntKind.u64.wrap n) = u := by simp only [IntKind.wrap, IntKind.bits, IntKind.signed]; simp; omega
  have hnd := Lib.nDigits_le20 u.toNat (by omega)
  have hnp := Lib.nDigits_pos u.toNat
  have hnl := Lib.lt_pow_nDigits u.toNat
  have hw : IntKind.i64.wrap (1 + ((Lib.nDigits u.toNat : Nat) : Int)) = ((1 + Lib.nDigits u.toNat : Nat) : Int) := by rw [wr64 (by omega)]; push_cast; omega
  refine runs_last baseIB (Sx.Ends.of (zftN_p0 F n u) ⟨?oo, ?rr⟩) (by kernel_rfl) rfl (gtL (by decide)) (by decide)
  case oo =>
    refine (okc ?_ (okc ?_ (okc ?_ (okc ?_ (okc ?_ (okc ?_ (okc ?_ (okc ?_ (okc ?_ (okc ?_ (okc ?_ (okc ?_ (okc ?_ okn)))))))))))))
    all_goals first | omega | assumption | (simp only [Int.toNat_natCast, Nat.add_sub_cancel_left, decide_eq_true_eq, hz, hw]; first | exact hnl | omega | exact ⟨by omega, by omega⟩) |  (simp (disch := omega) only [SS, hz, hw]; first | done | omega | assumption) | (simp only [byteOk]; simp; done) | exact ⟨hF, by omega, by omega⟩ | (simp_all [byteOk]; done) | (simp_all; omega)
  case rr =>
    refine ⟨?_, trivial⟩
    rw [hi]
    try simp only [hz, hw, Int.toNat_natCast, Nat.add_sub_cancel_left]
    exact (bytes_neg u (Lib.nDigits u.toNat) (fun _ => 0) rfl).symm

theorem zftT (F : Ix → Int) (n : Int) (hF : pwOK F = true) (h : -9223372036854775808 ≤ n ∧ n < 9223372036854775808) : RunsTo Tryd.prog 92 [.code (bodyOf Tryd.f92)] (envOf [vN n, vN 10] Tryd.f92.ntmps) (Sx.look (pwF F ++ ([]))) 80 (vS (Lib.itoa n)) (Sx.look []) 110 := by
  by_cases h1 : n < 0
  · exact zftN F n (-n) hF ⟨h.1, h1⟩ rfl
  · by_cases h2 : n < 100
    · exact zftS F n ⟨by omega, h2⟩
    · exact zftP F n hF ⟨by omega, h.2⟩
end Go.Proofs.YtankmgnjkcgpaaaDoor

set_option linter.unusedSimpArgs false
set_option linter.unusedVariables false
set_option maxRecDepth 100000
namespace Go.Proofs.YtankmgnjkcgpaaaDoor
open Go.Sx

open RawR
def intsF (F : Ix → Int) (n : Nat) : List Int := (List.range n).map fun i => F [i]
def bdT (l r : Nat) (o : List UInt8) : List Ent := [⟨l, true, none, 243000002, .tc (.vp l (fun _ => 0) []) (.tc (.vl r (fun _ => 0) 1 [] (fun _ => o.length)) .t0)⟩, ⟨r, true, none, 12000001, .ta o.length (.vi .u8 fun is => ((o.getD (is.headD 0) 0).toNat : Int))⟩]
def bd0 (l : Nat) : List Ent := [⟨l, true, none, 243000002, .tc .vp0 (.tc .vl0 .t0)⟩]
def inN (n : Int) : Bool := decide (-9223372036854775808 ≤ n ∧ n < 9223372036854775808)
def lenB (B : Ix → Int) (n : Nat) : List UInt8 := bytesOf B [] 0 n
def eqI (n m : Nat) (F U : Ix → Int) : Bool := decide (n = m) && (List.range n).all fun i => decide (F [i] = U [i])
def sameV (k n k' n' : Int) (l m l' m' : Nat) (B B' F F' : Ix → Int) : Bool := decide (k = k') && (decide (n = n') && (decide (lenB B l = lenB B' l') && eqI m m' F F'))
def rightV (k n : Int) (l m : Nat) (F : Ix → Int) : Bool :=
  if k = 1 then decide (n = 0 ∧ l ≤ 1024) && upR l (-1) (intsF F m)
  else if k = 2 ∨ k = 3 then decide (0 ≤ n ∧ n ≤ 9999 ∧ l = 0 ∧ m = 0)
  else if k = 4 then decide (n = 0 ∧ l = 0 ∧ m = 0) else false
def evF (k n : Int) (l m : Nat) (B F : Ix → Int) : RawR.Ev := ⟨k, n, lenB B l, intsF F m⟩
def lineV (k n : Int) (l m : Nat) (B F : Ix → Int) : List UInt8 := if rightV k n l m F = true then lineR (evF k n l m B F) else []
theorem lenB_len (B : Ix → Int) (n : Nat) : (lenB B n).length = n := by simp [lenB, bytesOf]
theorem intsF_len (F : Ix → Int) (n : Nat) : (intsF F n).length = n := by simp [intsF]
theorem zfiT10 (F : Ix → Int) (n b : Int) (hb : b = 10) (hF : pwOK F = true) (h : inN n = true) : RunsTo Tryd.prog 92 [.code (bodyOf Tryd.f92)] (envOf [vN n, vN b] Tryd.f92.ntmps) (Sx.look (pwF F)) 80 (vS (Lib.itoa n)) (Sx.look []) 110 := by
  subst hb
  have := zftT F n hF (of_decide_eq_true h)
  simpa using this
def zfiP : PC := { args := [.v (.vi .i64 0), .v (.vi .i64 1)], heap := [], fams := [], tabs := [⟨17, false, 20, .tn 20 (.vi .u64 9)⟩], gs := [], G := 24, tp := 194, n := 80, n' := 110, cond := fun e => decide (eI e 1 [] = 10) && (pwOK (eI e 9) && inN (eI e 0 [])), v := fun e => vS (Lib.itoa (eI e 0 [])), post := fun e => [] }
theorem zfiP_pc : PC.Runs Tryd.prog 92 Tryd.f92 (bodyOf Tryd.f92) zfiP := ⟨Tryd.func92, by kernel_rfl, (fun g hg => by first | (cases hg; done) | (revert g; show ∀ g ∈ ([] : List Nat), g < 24; decide)), fun e H hc => by
  have hc : (decide (eI e 1 [] = 10) && (pwOK (eI e 9) && inN (eI e 0 []))) = true := hc
  try simp only [Bool.and_eq_true, decide_eq_true_eq, Nat.beq_eq] at hc
  exact zfiT10 (eI e 9) (eI e 0 []) (eI e 1 []) hc.1 hc.2.1 hc.2.2⟩
def sumsJA : List (FuncId × Summ) := [(92, zfiP.summ 48)]
theorem baseJA : Base0 Tryd.prog sumsJA := (baseO.cons Tryd.func92 (by kernel_rfl) (PC.summ_ok zfiP_pc gtopG))
theorem zit_p0 (F : Ix → Int) (n : Int) :
    isEnd (evTill Tryd.prog sumsJA 300 (99) 900 60 [.code (bodyOf Tryd.f60)] (envOf [vN n] Tryd.f60.ntmps) (pwF F ++ ([])) ⟨[.s true], 80⟩) (endP ([]) (vS (Lib.itoa n)) ([]) 120) =
    (OkL [(decide ((10 : Int) = (10 : Int)) && (pwOK F && inN n), true)] ∧ Lib.itoa n = Lib.itoa n ∧ True) := by kernel_rfl

set_option maxHeartbeats 4000000 in
theorem zit (F : Ix → Int) (n : Int) (hF : pwOK F = true) (hn : inN n = true)  :
    RunsTo Tryd.prog 60 [.code (bodyOf Tryd.f60)] (envOf [vN n] Tryd.f60.ntmps) (Sx.look (pwF F ++ ([]))) 80 (vS (Lib.itoa n)) (Sx.look ([])) 120 := by
  refine runs_last baseJA (Sx.Ends.of (zit_p0 F n) ⟨?oo, ?rr⟩) (by kernel_rfl) rfl (gtL (by decide)) (by decide)
  case oo =>
    refine (okc ?_ okn)
    all_goals first | rfl | omega | assumption | exact ⟨hF, hn⟩ | exact ⟨rfl, hF, hn⟩ | (simp (disch := omega) only [SS]; first | done | omega | assumption | exact ⟨hF, hn⟩) | (simp_all; done) | (simp_all; omega)
  case rr =>
    exact ⟨rfl, trivial⟩

def zitP : PC := { args := [.v (.vi .i64 0)], heap := [], fams := [], tabs := [⟨17, false, 20, .tn 20 (.vi .u64 9)⟩], gs := [], G := 24, tp := 194, n := 80, n' := 120, cond := fun e => pwOK (eI e 9) && inN (eI e 0 []), v := fun e => vS (Lib.itoa (eI e 0 [])), post := fun e => [] }
theorem zitP_pc : PC.Runs Tryd.prog 60 Tryd.f60 (bodyOf Tryd.f60) zitP := ⟨Tryd.func60, by kernel_rfl, (fun g hg => by first | (cases hg; done) | (revert g; show ∀ g ∈ ([] : List Nat), g < 24; decide)), fun e H hc => by
  have hc : (pwOK (eI e 9) && inN (eI e 0 [])) = true := hc
  try simp only [Bool.and_eq_true, decide_eq_true_eq, Nat.beq_eq] at hc
  exact zit (eI e 9) (eI e 0 []) hc.1 hc.2⟩
def sumsBD : List (FuncId × Summ) := [(93, bldCk 121), (79, bldStr 121 5)]
theorem baseBD : Base0 Tryd.prog sumsBD := ((baseO.cons Tryd.func79 (by kernel_rfl) bdStr).cons Tryd.func93 (by kernel_rfl) bdCk)
theorem hex_hi (c : UInt8) : [48, 49, 50, 51, 52, 53, 54, 55, 56, 57, 97, 98, 99, 100, 101, 102].getD (ishr .u8 (c.toNat : Int) 4).toNat (0 : UInt8) = hx (c.toNat / 16) ∧ ishr .u8 (c.toNat : Int) 4 = ((c.toNat / 16 : Nat) : Int) := by
  have : ((List.range 256).all fun n => decide (([48, 49, 50, 51, 52, 53, 54, 55, 56, 57, 97, 98, 99, 100, 101, 102] : List UInt8).getD (ishr .u8 (n : Int) 4).toNat (0 : UInt8) = hx (n / 16) ∧ ishr .u8 (n : Int) 4 = ((n / 16 : Nat) : Int))) = true := by kernel_rfl
  exact of_decide_eq_true (List.all_eq_true.1 this c.toNat (List.mem_range.2 c.toNat_lt))
theorem hex_lo (c : UInt8) : [48, 49, 50, 51, 52, 53, 54, 55, 56, 57, 97, 98, 99, 100, 101, 102].getD (iand .u8 (c.toNat : Int) 15).toNat (0 : UInt8) = hx (c.toNat % 16) ∧ iand .u8 (c.toNat : Int) 15 = ((c.toNat % 16 : Nat) : Int) := by
  have : ((List.range 256).all fun n => decide (([48, 49, 50, 51, 52, 53, 54, 55, 56, 57, 97, 98, 99, 100, 101, 102] : List UInt8).getD (iand .u8 (n : Int) 15).toNat (0 : UInt8) = hx (n % 16) ∧ iand .u8 (n : Int) 15 = ((n % 16 : Nat) : Int))) = true := by kernel_rfl
  exact of_decide_eq_true (List.all_eq_true.1 this c.toNat (List.mem_range.2 c.toNat_lt))
theorem bytes_is {B : Ix → Int} {l : List UInt8} {n : Nat} (hn : l.length = n) (h : ∀ j, j < n → B [j] = ((l.getD j 0).toNat : Int)) : bytesOf B [] 0 n = l := by
  subst hn
  apply List.ext_getElem
  · simp [bytesOf]
  · intro i h1 h2
    have := h i h2
    simp only [bytesOf, List.getElem_map, List.getElem_range, List.nil_append, Nat.zero_add]
    rw [this]
    simp [List.getD_eq_getElem?_getD, List.getElem?_eq_getElem h2]
theorem lenB_get (B : Ix → Int) {n i : Nat} (h : i < n) : (lenB B n).getD i 0 = UInt8.ofNat (B [i]).toNat := by
  simp [lenB, bytesOf, List.getD_eq_getElem?_getD, h]
theorem app_two (o : List UInt8) (x y : UInt8) : ∀ k, k < (o ++ [x, y]).length → (((o ++ [x, y]).getD k 0).toNat : Int) = appF (o ++ [x]).length 0 (appF o.length 0 (fun is => ((o.getD (is.headD 0) 0).toNat : Int)) (fun _ => (x.toNat : Int))) (fun _ => (y.toNat : Int)) [k] := by
  intro k hk
  have h1 := app_byte (o ++ [x]) y (fun _ => (y.toNat : Int)) rfl k (by simpa using hk)
  rw [List.append_assoc] at h1
  rw [show o ++ [x, y] = o ++ ([x] ++ [y]) from rfl, h1]
  simp only [appF, Nat.zero_add]
  by_cases hk2 : k < (o ++ [x]).length
  · rw [if_pos hk2, if_pos hk2]
    have h2 := app_byte o x (fun _ => (x.toNat : Int)) rfl k hk2
    simp only [appF, Nat.zero_add] at h2
    exact h2
  · rw [if_neg hk2, if_neg hk2]
theorem td0_p0 (n M : Nat) (B : Ix → Int) :
    isEnd (evTill Tryd.prog sumsBD 400 (99) 900 61 [.code (bodyOf Tryd.f61)] (envOf [vL 61 1 n] Tryd.f61.ntmps) ([⟨61, false, none, 1, .ta M (.vi .u8 B)⟩] ++ ([])) ⟨[.s true], 80⟩) (endP ([]) (vS [45]) ([]) 150) =
    (OkL [((↑n : Int) == (0 : Int), true)] ∧ [(45 : UInt8)] = [(45 : UInt8)] ∧ True) := by kernel_rfl

set_option maxHeartbeats 4000000 in
theorem td0 (n M : Nat) (B : Ix → Int) (h : n = 0)  :
    RunsTo Tryd.prog 61 [.code (bodyOf Tryd.f61)] (envOf [vL 61 1 n] Tryd.f61.ntmps) (Sx.look ([⟨61, false, none, 1, .ta M (.vi .u8 B)⟩] ++ ([]))) 80 (vS [45]) (Sx.look ([])) 150 := by
  refine runs_last baseBD (Sx.Ends.of (td0_p0 n M B) ⟨?oo, ?rr⟩) (by kernel_rfl) rfl (gtL (by decide)) (by decide)
  case oo =>
    refine (okc ?_ okn)
    all_goals ((try simp (disch := omega) only [SS]); first | done | omega | assumption | (simp (disch := omega) only [SS] at *; first | done | omega | assumption) | (simp_all; done))
  case rr =>
    try simp (disch := omega) only [SS]
    repeat' apply And.intro
    all_goals first | exact True.intro | with_reducible rfl | omega | (intros; first | exact True.intro | with_reducible rfl | omega | (simp_all; done)) | (simp_all; done) | rfl

theorem td1_p0 (n M : Nat) (B : Ix → Int) :
    isMore (evTill Tryd.prog sumsBD 400 (behind Tryd.f61 0) 900 61 [.code (bodyOf Tryd.f61)] (envOf [vL 61 1 n] Tryd.f61.ntmps) ([⟨61, false, none, 1, .ta M (.vi .u8 B)⟩] ++ ([])) ⟨[.s false], 80⟩) (moreP (headOf Tryd.f61 0) ([((101 : Nat), Rn.to (80 : Nat))]) Tryd.f61.ntmps ([(3, vP 101), (9, vL 61 1 n), (10, vN n), (11, vN (0 : Nat))]) (bd0 101) 150) =
    (OkL [((↑n : Int) == (0 : Int), false)] ∧ headOf Tryd.f61 (0 : Nat) = headOf Tryd.f61 (0 : Nat) ∧ ((0 : Nat) = (0 : Nat) ∧ ((0 : Nat) = (0 : Nat) ∧ n = n) ∧ (↑n : Int) = (↑n : Int) ∧ (↑(0 : Nat) : Int) = (0 : Int)) ∧ True ∧ True) := by kernel_rfl

set_option maxHeartbeats 4000000 in
theorem td1 (n M : Nat) (B : Ix → Int) (h : n ≠ 0) (hM : n ≤ M) (hn : n ≤ 100000)  (v : SV) (L' : HF) (next : RunsTo Tryd.prog 61 (headOf Tryd.f61 0) (envAt Tryd.f61.ntmps ([(3, vP 101), (9, vL 61 1 n), (10, vN n), (11, vN (0 : Nat))])) (Sx.look ([⟨61, false, none, 1, .ta M (.vi .u8 B)⟩] ++ (bd0 101))) 80 (v) (L') 150) :
    RunsTo Tryd.prog 61 [.code (bodyOf Tryd.f61)] (envOf [vL 61 1 n] Tryd.f61.ntmps) (Sx.look ([⟨61, false, none, 1, .ta M (.vi .u8 B)⟩] ++ ([]))) 80 (v) (L') 150 := by
  refine runs_more baseBD (More.of (td1_p0 n M B) ⟨?oo, rfl, ?rr⟩) (by kernel_rfl) (by kernel_rfl) rfl (gtL (by decide)) (by decide) next
  case oo =>
    clear next
    refine (okc ?_ okn)
    all_goals ((try simp (disch := omega) only [SS]); first | done | omega | assumption | (simp (disch := omega) only [SS] at *; first | done | omega | assumption) | (simp_all; done))
  case rr =>
    clear next
    try simp (disch := omega) only [SS]
    repeat' apply And.intro
    all_goals first | exact True.intro | with_reducible rfl | omega | (intros; first | exact True.intro | with_reducible rfl | omega | (simp_all; done)) | (simp_all; done) | rfl

theorem td2_p0 (n M : Nat) (B : Ix → Int) (c : UInt8) :
    isMore (evTill Tryd.prog sumsBD 400 (behind Tryd.f61 0) 900 61 (headOf Tryd.f61 0) (envAt Tryd.f61.ntmps ([(3, vP 101), (9, vL 61 1 n), (10, vN n), (11, vN (0 : Nat))])) ([⟨61, false, none, 1, .ta M (.vi .u8 B)⟩] ++ (bd0 101)) ⟨[.s true, .s true, .s true, .s true, .t, .s true, .t, .t, .s true, .t, .t, .t], 110⟩) (moreP (headOf Tryd.f61 0) ([((102 : Nat), Rn.to (113 : Nat))]) Tryd.f61.ntmps ([(3, vP 101), (9, vL 61 1 n), (10, vN n), (11, vN (1 : Nat))]) (bdT 101 102 ([hx (c.toNat / 16), hx (c.toNat % 16)])) 150) =
    (OkL [(decide ((↑(0 : Nat) : Int) < (↑n : Int)), true), (decide ((0 : Int) ≤ (↑(0 : Nat) : Int) ∧ (↑(0 : Nat) : Int) < (↑n : Int)), true), (Nat.blt (0 : Nat) M, true), (Nat.blt (0 : Nat) M, true), (decide ((0 : Int) ≤ ishr IntKind.u8 (B [(0 : Nat)]) (4 : Int) ∧ ishr IntKind.u8 (B [(0 : Nat)]) (4 : Int) < (↑(16 : Nat) : Int)), true), (decide ((0 : Int) ≤ iand IntKind.u8 (B [(0 : Nat)]) (15 : Int) ∧ iand IntKind.u8 (B [(0 : Nat)]) (15 : Int) < (↑(16 : Nat) : Int)), true)] ∧ headOf Tryd.f61 (0 : Nat) = headOf Tryd.f61 (0 : Nat) ∧ ((0 : Nat) = (0 : Nat) ∧ ((0 : Nat) = (0 : Nat) ∧ n = n) ∧ (↑n : Int) = (↑n : Int) ∧ (↑(1 : Nat) : Int) = IntKind.i64.wrap ((↑(0 : Nat) : Int) + (1 : Int))) ∧ ((0 : Nat) = (0 : Nat) ∧ (0 : Nat) = (0 : Nat) ∧ [hx (c.toNat / (16 : Nat)), hx (c.toNat % (16 : Nat))].length = (2 : Nat)) ∧ [hx (c.toNat / (16 : Nat)), hx (c.toNat % (16 : Nat))].length = (2 : Nat) ∧ ∀ (i : Nat), i < [hx (c.toNat / (16 : Nat)), hx (c.toNat % (16 : Nat))].length → (↑([hx (c.toNat / (16 : Nat)), hx (c.toNat % (16 : Nat))].getD i (0 : UInt8)).toNat : Int) = appF (1 : Nat) (0 : Nat) (fun js => (↑([(48 : UInt8), (49 : UInt8), (50 : UInt8), (51 : UInt8), (52 : UInt8), (53 : UInt8), (54 : UInt8), (55 : UInt8), (56 : UInt8), (57 : UInt8), (97 : UInt8), (98 : UInt8), (99 : UInt8), (100 : UInt8), (101 : UInt8), (102 : UInt8)].getD (ishr IntKind.u8 (B [(0 : Nat)]) (4 : Int)).toNat (0 : UInt8)).toNat : Int)) (fun js => (↑([(48 : UInt8), (49 : UInt8), (50 : UInt8), (51 : UInt8), (52 : UInt8), (53 : UInt8), (54 : UInt8), (55 : UInt8), (56 : UInt8), (57 : UInt8), (97 : UInt8), (98 : UInt8), (99 : UInt8), (100 : UInt8), (101 : UInt8), (102 : UInt8)].getD (iand IntKind.u8 (B [(0 : Nat)]) (15 : Int)).toNat (0 : UInt8)).toNat : Int)) [i]) := by kernel_rfl

set_option maxHeartbeats 4000000 in
theorem td2 (n M : Nat) (B : Ix → Int) (c : UInt8) (hin : 0 < n) (hc : B [0] = (c.toNat : Int)) (hM : n ≤ M) (hn : n ≤ 100000)  (v : SV) (L' : HF) (next : RunsTo Tryd.prog 61 (headOf Tryd.f61 0) (envAt Tryd.f61.ntmps ([(3, vP 101), (9, vL 61 1 n), (10, vN n), (11, vN (1 : Nat))])) (Sx.look ([⟨61, false, none, 1, .ta M (.vi .u8 B)⟩] ++ (bdT 101 102 ([hx (c.toNat / 16), hx (c.toNat % 16)])))) 80 (v) (L') 150) :
    RunsTo Tryd.prog 61 (headOf Tryd.f61 0) (envAt Tryd.f61.ntmps ([(3, vP 101), (9, vL 61 1 n), (10, vN n), (11, vN (0 : Nat))])) (Sx.look ([⟨61, false, none, 1, .ta M (.vi .u8 B)⟩] ++ (bd0 101))) 80 (v) (L') 150 := by
  have hi0 : 0 + ((0 : Nat) : Int).toNat = 0 := by simp
  have hw : IntKind.i64.wrap (((0 : Nat) : Int) + 1) = ((1 : Nat) : Int) := by decide
  obtain ⟨a1, a2⟩ := hex_hi c
  obtain ⟨b1, b2⟩ := hex_lo c
  have hb := u8nat c
  have k4 : IntKind.u8.wrap 15 = 15 := by decide
  refine runs_more baseBD (More.of (td2_p0 n M B c) ⟨?oo, rfl, ?rr⟩) (by kernel_rfl) (by kernel_rfl) rfl (gtL (by decide)) (by decide) next
  case oo =>
    clear next
    refine (okc ?_ (okc ?_ (okc ?_ (okc ?_ (okc ?_ (okc ?_ okn))))))
    all_goals ((try simp only [hi0, hc, k4, a1, a2, b1, b2]); first | done | rfl | omega | (simp (disch := omega) only [SS, hi0, hc, a1, a2, b1, b2]; first | done | omega) | (simp_all; done) | (simp_all; omega))
  case rr =>
    clear next
    simp only [hi0, hw, hc, k4, a1, b1]
    repeat' apply And.intro
    all_goals first | exact True.intro | with_reducible rfl | omega | (simp; done) | (intro k hk; match k, hk with | 0, _ => rfl | 1, _ => rfl) | (intros; simp_all; done) | rfl

theorem td3_p0 (n M : Nat) (B : Ix → Int) (o : List UInt8) (i : Nat) (c : UInt8) :
    isMore (evTill Tryd.prog sumsBD 400 (behind Tryd.f61 0) 900 61 (headOf Tryd.f61 0) (envAt Tryd.f61.ntmps ([(3, vP 101), (9, vL 61 1 n), (10, vN n), (11, vN (i : Nat))])) ([⟨61, false, none, 1, .ta M (.vi .u8 B)⟩] ++ (bdT 101 102 (o))) ⟨[.s true, .s true, .s true, .s true, .t, .s true, .t, .s true, .s true, .s true, .t, .s true, .s true], 110⟩) (moreP (headOf Tryd.f61 0) ([((102 : Nat), Rn.to (113 : Nat))]) Tryd.f61.ntmps ([(3, vP 101), (9, vL 61 1 n), (10, vN n), (11, vN (i + 1 : Nat))]) (bdT 101 102 (o ++ [hx (c.toNat / 16), hx (c.toNat % 16)])) 150) =
    (OkL [(decide ((↑i : Int) < (↑n : Int)), true), (decide ((0 : Int) ≤ (↑i : Int) ∧ (↑i : Int) < (↑n : Int)), true), (((0 : Nat) + (↑i : Int).toNat).blt M, true), (((0 : Nat) + (↑i : Int).toNat).blt M, true), (decide ((0 : Int) ≤ ishr IntKind.u8 (B [(0 : Nat) + (↑i : Int).toNat]) (4 : Int) ∧ ishr IntKind.u8 (B [(0 : Nat) + (↑i : Int).toNat]) (4 : Int) < (↑(16 : Nat) : Int)), true), (((0 : Nat) + o.length).ble o.length, true), (decide (((2 : Nat) * (o.length + (1 : Nat)) + (192 : Nat)) * (1 : Nat) ≤ (281474976710656 : Nat)), true), (decide ((0 : Int) ≤ iand IntKind.u8 (B [(0 : Nat) + (↑i : Int).toNat]) (15 : Int) ∧ iand IntKind.u8 (B [(0 : Nat) + (↑i : Int).toNat]) (15 : Int) < (↑(16 : Nat) : Int)), true), (((0 : Nat) + (o.length + (1 : Nat))).ble (o.length + (1 : Nat)), true), (decide (((2 : Nat) * (o.length + (1 : Nat) + (1 : Nat)) + (192 : Nat)) * (1 : Nat) ≤ (281474976710656 : Nat)), true)] ∧ headOf Tryd.f61 (0 : Nat) = headOf Tryd.f61 (0 : Nat) ∧ ((0 : Nat) = (0 : Nat) ∧ ((0 : Nat) = (0 : Nat) ∧ n = n) ∧ (↑n : Int) = (↑n : Int) ∧ (↑(i + (1 : Nat)) : Int) = IntKind.i64.wrap ((↑i : Int) + (1 : Int))) ∧ ((0 : Nat) = (0 : Nat) ∧ (0 : Nat) = (0 : Nat) ∧ (o ++ [hx (c.toNat / (16 : Nat)), hx (c.toNat % (16 : Nat))]).length = o.length + (1 : Nat) + (1 : Nat)) ∧ (o ++ [hx (c.toNat / (16 : Nat)), hx (c.toNat % (16 : Nat))]).length = o.length + (1 : Nat) + (1 : Nat) ∧ ∀ (i_1 : Nat), i_1 < (o ++ [hx (c.toNat / (16 : Nat)), hx (c.toNat % (16 : Nat))]).length → (↑((o ++ [hx (c.toNat / (16 : Nat)), hx (c.toNat % (16 : Nat))]).getD i_1 (0 : UInt8)).toNat : Int) = appF (o.length + (1 : Nat)) (0 : Nat) (appF o.length (0 : Nat) (fun is => (↑(o.getD (List.headD is (0 : Nat)) (0 : UInt8)).toNat : Int)) fun js => (↑([(48 : UInt8), (49 : UInt8), (50 : UInt8), (51 : UInt8), (52 : UInt8), (53 : UInt8), (54 : UInt8), (55 : UInt8), (56 : UInt8), (57 : UInt8), (97 : UInt8), (98 : UInt8), (99 : UInt8), (100 : UInt8), (101 : UInt8), (102 : UInt8)].getD (ishr IntKind.u8 (B [(0 : Nat) + (↑i : Int).toNat]) (4 : Int)).toNat (0 : UInt8)).toNat : Int)) (fun js => (↑([(48 : UInt8), (49 : UInt8), (50 : UInt8), (51 : UInt8), (52 : UInt8), (53 : UInt8), (54 : UInt8), (55 : UInt8), (56 : UInt8), (57 : UInt8), (97 : UInt8), (98 : UInt8), (99 : UInt8), (100 : UInt8), (101 : UInt8), (102 : UInt8)].getD (iand IntKind.u8 (B [(0 : Nat) + (↑i : Int).toNat]) (15 : Int)).toNat (0 : UInt8)).toNat : Int)) [i_1]) := by kernel_rfl

set_option maxHeartbeats 4000000 in
theorem td3 (n M : Nat) (B : Ix → Int) (o : List UInt8) (i : Nat) (c : UInt8) (hi : i < n) (ho : o.length ≤ 1000000) (hc : B [i] = (c.toNat : Int)) (hM : n ≤ M) (hn : n ≤ 100000)  (v : SV) (L' : HF) (next : RunsTo Tryd.prog 61 (headOf Tryd.f61 0) (envAt Tryd.f61.ntmps ([(3, vP 101), (9, vL 61 1 n), (10, vN n), (11, vN (i + 1 : Nat))])) (Sx.look ([⟨61, false, none, 1, .ta M (.vi .u8 B)⟩] ++ (bdT 101 102 (o ++ [hx (c.toNat / 16), hx (c.toNat % 16)])))) 80 (v) (L') 150) :
    RunsTo Tryd.prog 61 (headOf Tryd.f61 0) (envAt Tryd.f61.ntmps ([(3, vP 101), (9, vL 61 1 n), (10, vN n), (11, vN (i : Nat))])) (Sx.look ([⟨61, false, none, 1, .ta M (.vi .u8 B)⟩] ++ (bdT 101 102 (o)))) 80 (v) (L') 150 := by
  have hw : IntKind.i64.wrap ((i : Int) + 1) = ((i + 1 : Nat) : Int) := by rw [wr64 (by omega)]; rfl
  have hi0 : 0 + ((i : Nat) : Int).toNat = i := by simp
  obtain ⟨a1, a2⟩ := hex_hi c
  obtain ⟨b1, b2⟩ := hex_lo c
  have hb := u8nat c
  have hap := app_two o (hx (c.toNat / 16)) (hx (c.toNat % 16))
  have k4 : IntKind.u8.wrap 15 = 15 := by decide
  have hlo : (o ++ [hx (c.toNat / 16)]).length = o.length + 1 := by simp
  refine runs_more baseBD (More.of (td3_p0 n M B o i c) ⟨?oo, rfl, ?rr⟩) (by kernel_rfl) (by kernel_rfl) rfl (gtL (by decide)) (by decide) next
  case oo =>
    clear next
    refine (okc ?_ (okc ?_ (okc ?_ (okc ?_ (okc ?_ (okc ?_ (okc ?_ (okc ?_ (okc ?_ (okc ?_ okn))))))))))
    all_goals ((try simp only [hi0, hc, k4, a1, a2, b1, b2]); first | done | rfl | omega | (simp (disch := omega) only [SS, hi0, hc, a1, a2, b1, b2]; first | done | omega) | (simp_all; done) | (simp_all; omega))
  case rr =>
    clear next
    simp only [hi0, hw, hc, k4, a1, b1]
    repeat' apply And.intro
    all_goals first | exact True.intro | with_reducible rfl | omega | (simp; done) | (intro k hk; have := hap k (by simpa using hk); rw [hlo] at this; exact this) | (intros; simp_all; done) | rfl

theorem td4_p0 (n M : Nat) (B : Ix → Int) (o : List UInt8) (i : Nat) :
    isEnd (evTill Tryd.prog sumsBD 400 (99) 900 61 (headOf Tryd.f61 0) (envAt Tryd.f61.ntmps ([(3, vP 101), (9, vL 61 1 n), (10, vN n), (11, vN (i : Nat))])) ([⟨61, false, none, 1, .ta M (.vi .u8 B)⟩] ++ (bdT 101 102 (o))) ⟨[.s false, .s true, .s true, .s true], 110⟩) (endP ([]) (vS o) ([]) 150) =
    (OkL [(decide ((↑i : Int) < (↑n : Int)), false), (Nat.blt (0 : Nat) o.length, true), (o.length.ble o.length, true), (o.length.ble (1000000 : Nat), true)] ∧ o = bytesOf (fun is => (↑(o.getD (List.headD is (0 : Nat)) (0 : UInt8)).toNat : Int)) [] (0 : Nat) o.length ∧ True) := by kernel_rfl

set_option maxHeartbeats 4000000 in
theorem td4 (n M : Nat) (B : Ix → Int) (o : List UInt8) (i : Nat) (hi : i = n) (h0 : 0 < o.length) (ho : o.length ≤ 1000000)  :
    RunsTo Tryd.prog 61 (headOf Tryd.f61 0) (envAt Tryd.f61.ntmps ([(3, vP 101), (9, vL 61 1 n), (10, vN n), (11, vN (i : Nat))])) (Sx.look ([⟨61, false, none, 1, .ta M (.vi .u8 B)⟩] ++ (bdT 101 102 (o)))) 80 (vS o) (Sx.look ([])) 150 := by
  refine runs_last baseBD (Sx.Ends.of (td4_p0 n M B o i) ⟨?oo, ?rr⟩) (by kernel_rfl) rfl (gtL (by decide)) (by decide)
  case oo =>
    refine (okc ?_ (okc ?_ (okc ?_ (okc ?_ okn))))
    all_goals first | rfl | omega | assumption | (simp (disch := omega) only [SS]; first | done | omega | assumption) | (simp; omega)
  case rr =>
    refine ⟨?_, trivial⟩
    exact (bytes_is rfl (fun j hj => rfl)).symm

theorem hexT_snoc (b : List UInt8) {i : Nat} (h : i < b.length) : hexT (b.take (i + 1)) = hexT (b.take i) ++ [hx ((b.getD i 0).toNat / 16), hx ((b.getD i 0).toNat % 16)] := by
  rw [List.take_add_one, List.getElem?_eq_getElem h]
  unfold hexT
  rw [List.flatMap_append]
  simp [List.getD_eq_getElem?_getD, List.getElem?_eq_getElem h]
theorem tdT (n M : Nat) (B : Ix → Int) (hM : n ≤ M) (hn : n ≤ 100000) (hB : bndB B n = true) : RunsTo Tryd.prog 61 [.code (bodyOf Tryd.f61)] (envOf [vL 61 1 n] Tryd.f61.ntmps) (Sx.look ([⟨61, false, none, 1, .ta M (.vi .u8 B)⟩] ++ ([]))) 80 (vS (toldR (lenB B n))) (Sx.look []) 150 := by
  by_cases h0 : n = 0
  · subst h0; exact td0 0 M B rfl
  have hl := lenB_len B n
  have hv : toldR (lenB B n) = hexT ((lenB B n).take n) := by
    rw [List.take_of_length_le (by omega)]
    unfold toldR
    rw [if_neg (by intro e; rw [e] at hl; simp at hl; omega)]; rfl
  have hat : ∀ i, i < n → B [i] = (((lenB B n).getD i 0).toNat : Int) := by
    intro i hi
    have := bndB_ok hB hi
    rw [lenB_get B hi]
    simp [UInt8.toNat_ofNat']; omega
  rw [hv]
  refine td1 n M B h0 hM hn _ _ ?_
  have e1 := hexT_snoc (lenB B n) (show 0 < (lenB B n).length by omega)
  refine td2 n M B ((lenB B n).getD 0 0) (by omega) (hat 0 (by omega)) hM hn _ _ ?_
  rw [show hexT ((lenB B n).take 0) = [] by simp [hexT], List.nil_append] at e1
  rw [← e1]
  suffices q : ∀ (k i : Nat), i + k = n → 1 ≤ i → RunsTo Tryd.prog 61 (headOf Tryd.f61 0) (envAt Tryd.f61.ntmps ([(3, vP 101), (9, vL 61 1 n), (10, vN n), (11, vN (i : Nat))])) (Sx.look ([⟨61, false, none, 1, .ta M (.vi .u8 B)⟩] ++ (bdT 101 102 (hexT ((lenB B n).take i))))) 80 (vS (hexT ((lenB B n).take n))) (Sx.look []) 150 from q (n - 1) 1 (by omega) (by omega)
  intro k
  induction k with
  | zero =>
    intro i hi h1
    have : i = n := by omega
    subst this
    exact td4 i M B _ i rfl (by rw [hexT_len, List.length_take]; omega) (by rw [hexT_len, List.length_take]; omega)
  | succ k ih =>
    intro i hi h1
    refine td3 n M B _ i ((lenB B n).getD i 0) (by omega) (by rw [hexT_len, List.length_take]; omega) (hat i (by omega)) hM hn _ _ ?_
    rw [← hexT_snoc _ (show i < (lenB B n).length by omega)]
    exact ih (i + 1) (by omega) (by omega)
def tdP : PC := { args := [.v (.vl 61 1 0)], heap := [⟨61, false, 1, .ta 5 (.vi .u8 6)⟩], gs := [], G := 24, tp := 194, n := 80, n' := 150, cond := fun e => decide (eN e 0 ≤ eN e 5) && (decide (eN e 0 ≤ 100000) && bndB (eI e 6) (eN e 0)), v := fun e => vS (toldR (lenB (eI e 6) (eN e 0))), post := fun e => [] }
theorem tdP_pc : PC.Runs Tryd.prog 61 Tryd.f61 (bodyOf Tryd.f61) tdP := ⟨Tryd.func61, by kernel_rfl, (fun g hg => by first | (cases hg; done) | (revert g; show ∀ g ∈ ([] : List Nat), g < 24; decide)), fun e H hc => by
  have hc : (decide (eN e 0 ≤ eN e 5) && (decide (eN e 0 ≤ 100000) && bndB (eI e 6) (eN e 0))) = true := hc
  try simp only [Bool.and_eq_true, decide_eq_true_eq, Nat.beq_eq] at hc
  exact tdT (eN e 0) (eN e 5) (eI e 6) hc.1 hc.2.1 hc.2.2⟩
end Go.Proofs.YtankmgnjkcgpaaaDoor

