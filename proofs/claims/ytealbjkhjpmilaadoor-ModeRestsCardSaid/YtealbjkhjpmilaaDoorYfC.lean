/- Modes, act by act: what is called. -/
import Derived.Test.YtealbjkhjpmilaaDoorYcC
set_option linter.unusedSimpArgs false
set_option linter.unusedVariables false
set_option maxRecDepth 100000
namespace Go.Proofs.YtealbjkhjpmilaaDoor
open Go.Sx


def addB (a b n t : Int) : Int := if (q2 a t == 1) = true then (if iand .i64 b t = 0 then n else IntKind.i64.wrap (n + t)) else n
def bitF : Ix → Int := upd (upd (upd (upd (fun _ => 0) [0] 1) [1] 2) [2] 8) [3] 16
def bothR (a b : Int) : Int := addB a b (addB a b (addB a b (addB a b 0 1) 2) 8) 16
def s0 (s : List UInt8) : Int := ((s.getD 0 0).toNat : Int)
def s1 (s : List UInt8) : Int := ((s.getD 1 0).toNat : Int)
def rpB (s : List UInt8) : Int := if s.length < 2 then 3 else if 2 < s.length then 4 else if s0 s = 1 then (if rightR (maskR (s1 s)) = true then 0 else 5) else 9
def rpN (s : List UInt8) : Int := if rpB s = 0 then maskR (s1 s) else 0
def rpA (s : List UInt8) : Bool := if rpB s = 0 then ackR (s1 s) else false
theorem u8_lt (c : UInt8) : ((c.toNat : Nat) : Int) < 256 := by have := c.toNat_lt; omega
def boE (a b n : Int) (i : Nat) : List (Nat × SV) := [(0, vN a), (1, vN b), (5, vN n), (8, vL 85 1 4), (9, vN 4), (10, vN i)]
def boX : List Ent := [⟨85, true, none, 1, .ta 4 (.vi .i64 bitF)⟩]
theorem boS_p0 (a b : Int) :
    isMore (evTill Tryd.prog [] 300 (behind Tryd.f38 0) 900 38 [.code (bodyOf Tryd.f38)] (envOf [vN a, vN b] Tryd.f38.ntmps) ([] ++ []) ⟨[], 80⟩) (moreP (headOf Tryd.f38 0) ([((85 : Nat), Rn.to (80 : Nat))]) Tryd.f38.ntmps (boE a b 0 0) (boX) 130) =
    (OkL [] ∧ headOf Tryd.f38 (0 : Nat) = headOf Tryd.f38 (0 : Nat) ∧ (a = a ∧ b = b ∧ (0 : Int) = (0 : Int) ∧ ((0 : Nat) = (0 : Nat) ∧ (4 : Nat) = (4 : Nat)) ∧ (4 : Int) = (↑(4 : Nat) : Int) ∧ (↑(0 : Nat) : Int) = (0 : Int)) ∧ (4 : Nat) = (4 : Nat) ∧ ∀ (i : Nat), i < (4 : Nat) → bitF [i] = upd (upd (upd (upd (fun is => (0 : Int)) [(0 : Nat)] (1 : Int)) [(1 : Nat)] (2 : Int)) [(2 : Nat)] (8 : Int)) [(3 : Nat)] (16 : Int) [i]) := by kernel_rfl

set_option maxHeartbeats 4000000 in
theorem boS (a b : Int) (v : SV) (L' : HF) (next : RunsTo Tryd.prog 38 (headOf Tryd.f38 0) (envAt Tryd.f38.ntmps (boE a b 0 0)) (Sx.look ([] ++ boX)) 80 (v) (L') 130) :
    RunsTo Tryd.prog 38 [.code (bodyOf Tryd.f38)] (envOf [vN a, vN b] Tryd.f38.ntmps) (Sx.look ([] ++ [])) 80 v L' 130 := by
  refine runs_more baseO (More.of (boS_p0 a b) ⟨okn, rfl, ?_⟩) (by kernel_rfl) (by kernel_rfl) rfl (gtL (by decide)) (by decide) next
  clear next
  simp [bitF, upd]

theorem boR_p0 (a b n : Int) (i : Nat) :
    isMore (evTill Tryd.prog [] 300 (behind Tryd.f38 0) 900 38 (headOf Tryd.f38 0) (envAt Tryd.f38.ntmps (boE a b n i)) ([] ++ boX) ⟨[.s true, .s true, .s true, .s true, .s true, .t, .s false], 90⟩) (moreP (headOf Tryd.f38 0) ([]) Tryd.f38.ntmps (boE a b (addB a b n (bitF [i])) (i + 1)) (boX) 130) =
    (OkL [(decide ((↑i : Int) < (4 : Int)), true), (decide ((0 : Int) ≤ (↑i : Int) ∧ (↑i : Int) < (↑(4 : Nat) : Int)), true), (((0 : Nat) + (↑i : Int).toNat).blt (4 : Nat), true), (((0 : Nat) + (↑i : Int).toNat).blt (4 : Nat), true), (!bitF [(0 : Nat) + (↑i : Int).toNat] == (0 : Int), true), ((IntKind.i64.wrap (a.tdiv (bitF [(0 : Nat) + (↑i : Int).toNat]))).tmod (2 : Int) == (1 : Int), false)] ∧ headOf Tryd.f38 (0 : Nat) = headOf Tryd.f38 (0 : Nat) ∧ (a = a ∧ b = b ∧ addB a b n (bitF [i]) = n ∧ ((0 : Nat) = (0 : Nat) ∧ (4 : Nat) = (4 : Nat)) ∧ (4 : Int) = (4 : Int) ∧ (↑(i + (1 : Nat)) : Int) = IntKind.i64.wrap ((↑i : Int) + (1 : Int))) ∧ (4 : Nat) = (4 : Nat) ∧ ∀ (i : Nat), i < (4 : Nat) → bitF [i] = bitF [i]) := by kernel_rfl
theorem boR_p1 (a b n : Int) (i : Nat) :
    isMore (evTill Tryd.prog [] 300 (behind Tryd.f38 0) 900 38 (headOf Tryd.f38 0) (envAt Tryd.f38.ntmps (boE a b n i)) ([] ++ boX) ⟨[.s true, .s true, .s true, .s true, .s true, .t, .s true, .s false], 90⟩) (moreP (headOf Tryd.f38 0) ([]) Tryd.f38.ntmps (boE a b (addB a b n (bitF [i])) (i + 1)) (boX) 130) =
    (OkL [(decide ((↑i : Int) < (4 : Int)), true), (decide ((0 : Int) ≤ (↑i : Int) ∧ (↑i : Int) < (↑(4 : Nat) : Int)), true), (((0 : Nat) + (↑i : Int).toNat).blt (4 : Nat), true), (((0 : Nat) + (↑i : Int).toNat).blt (4 : Nat), true), (!bitF [(0 : Nat) + (↑i : Int).toNat] == (0 : Int), true), ((IntKind.i64.wrap (a.tdiv (bitF [(0 : Nat) + (↑i : Int).toNat]))).tmod (2 : Int) == (1 : Int), true), (iand IntKind.i64 b (bitF [(0 : Nat) + (↑i : Int).toNat]) != (0 : Int), false)] ∧ headOf Tryd.f38 (0 : Nat) = headOf Tryd.f38 (0 : Nat) ∧ (a = a ∧ b = b ∧ addB a b n (bitF [i]) = n ∧ ((0 : Nat) = (0 : Nat) ∧ (4 : Nat) = (4 : Nat)) ∧ (4 : Int) = (4 : Int) ∧ (↑(i + (1 : Nat)) : Int) = IntKind.i64.wrap ((↑i : Int) + (1 : Int))) ∧ (4 : Nat) = (4 : Nat) ∧ ∀ (i : Nat), i < (4 : Nat) → bitF [i] = bitF [i]) := by kernel_rfl
theorem boR_p2 (a b n : Int) (i : Nat) :
    isMore (evTill Tryd.prog [] 300 (behind Tryd.f38 0) 900 38 (headOf Tryd.f38 0) (envAt Tryd.f38.ntmps (boE a b n i)) ([] ++ boX) ⟨[.s true, .s true, .s true, .s true, .s true, .t, .s true, .s true], 90⟩) (moreP (headOf Tryd.f38 0) ([]) Tryd.f38.ntmps (boE a b (addB a b n (bitF [i])) (i + 1)) (boX) 130) =
    (OkL [(decide ((↑i : Int) < (4 : Int)), true), (decide ((0 : Int) ≤ (↑i : Int) ∧ (↑i : Int) < (↑(4 : Nat) : Int)), true), (((0 : Nat) + (↑i : Int).toNat).blt (4 : Nat), true), (((0 : Nat) + (↑i : Int).toNat).blt (4 : Nat), true), (!bitF [(0 : Nat) + (↑i : Int).toNat] == (0 : Int), true), ((IntKind.i64.wrap (a.tdiv (bitF [(0 : Nat) + (↑i : Int).toNat]))).tmod (2 : Int) == (1 : Int), true), (iand IntKind.i64 b (bitF [(0 : Nat) + (↑i : Int).toNat]) != (0 : Int), true)] ∧ headOf Tryd.f38 (0 : Nat) = headOf Tryd.f38 (0 : Nat) ∧ (a = a ∧ b = b ∧ addB a b n (bitF [i]) = IntKind.i64.wrap (n + bitF [(0 : Nat) + (↑i : Int).toNat]) ∧ ((0 : Nat) = (0 : Nat) ∧ (4 : Nat) = (4 : Nat)) ∧ (4 : Int) = (4 : Int) ∧ (↑(i + (1 : Nat)) : Int) = IntKind.i64.wrap ((↑i : Int) + (1 : Int))) ∧ (4 : Nat) = (4 : Nat) ∧ ∀ (i : Nat), i < (4 : Nat) → bitF [i] = bitF [i]) := by kernel_rfl

set_option maxHeartbeats 4000000 in
theorem boR (a b n : Int) (i : Nat) (hi : i < 4) (v : SV) (L' : HF) (next : RunsTo Tryd.prog 38 (headOf Tryd.f38 0) (envAt Tryd.f38.ntmps (boE a b (addB a b n (bitF [i])) (i + 1))) (Sx.look ([] ++ boX)) 80 (v) (L') 130) :
    RunsTo Tryd.prog 38 (headOf Tryd.f38 0) (envAt Tryd.f38.ntmps (boE a b n i)) (Sx.look ([] ++ boX)) 80 (v) (L') 130 := by
  have gg0 : (decide ((↑i : Int) < (4 : Int))) = true := by clear next; first | (simp (disch := omega) only [SS] at *; omega) | (simp (disch := omega) only [SS] at *; done) | ((have : i = 0 ∨ i = 1 ∨ i = 2 ∨ i = 3 := by omega); rcases this with rfl | rfl | rfl | rfl <;> rfl)
  have gg1 : (decide ((0 : Int) ≤ (↑i : Int) ∧ (↑i : Int) < (↑(4 : Nat) : Int))) = true := by clear next; first | (simp (disch := omega) only [SS] at *; omega) | (simp (disch := omega) only [SS] at *; done) | ((have : i = 0 ∨ i = 1 ∨ i = 2 ∨ i = 3 := by omega); rcases this with rfl | rfl | rfl | rfl <;> rfl)
  have gg2 : (((0 : Nat) + (↑i : Int).toNat).blt (4 : Nat)) = true := by clear next; first | (simp (disch := omega) only [SS] at *; omega) | (simp (disch := omega) only [SS] at *; done) | ((have : i = 0 ∨ i = 1 ∨ i = 2 ∨ i = 3 := by omega); rcases this with rfl | rfl | rfl | rfl <;> rfl)
  have gg3 : (!bitF [(0 : Nat) + (↑i : Int).toNat] == (0 : Int)) = true := by clear next; first | (simp (disch := omega) only [SS] at *; omega) | (simp (disch := omega) only [SS] at *; done) | ((have : i = 0 ∨ i = 1 ∨ i = 2 ∨ i = 3 := by omega); rcases this with rfl | rfl | rfl | rfl <;> rfl)
  refine bcase (c := ((IntKind.i64.wrap (a.tdiv (bitF [(0 : Nat) + (↑i : Int).toNat]))).tmod (2 : Int) == (1 : Int))) (fun gg4 => ?_) (fun gg4 => ?_)
  · refine runs_more baseO (More.of (boR_p0 a b n i) ⟨(okc gg0 (okc gg1 (okc gg2 (okc gg2 (okc gg3 (okc gg4 okn)))))), rfl, ?_⟩) (by kernel_rfl) (by kernel_rfl) rfl (gtL (by decide)) (by decide) next
    clear next
    have hw : IntKind.i64.wrap ((i : Int) + 1) = ((i + 1 : Nat) : Int) := by rw [wr64 (by omega)]; rfl
    simp only [SS, Int.toNat_natCast] at *
    simp [addB, q2, hw, *]
  · refine bcase (c := (iand IntKind.i64 b (bitF [(0 : Nat) + (↑i : Int).toNat]) != (0 : Int))) (fun gg5 => ?_) (fun gg5 => ?_)
    · refine runs_more baseO (More.of (boR_p1 a b n i) ⟨(okc gg0 (okc gg1 (okc gg2 (okc gg2 (okc gg3 (okc gg4 (okc gg5 okn))))))), rfl, ?_⟩) (by kernel_rfl) (by kernel_rfl) rfl (gtL (by decide)) (by decide) next
      clear next
      have hw : IntKind.i64.wrap ((i : Int) + 1) = ((i + 1 : Nat) : Int) := by rw [wr64 (by omega)]; rfl
      simp only [SS, Int.toNat_natCast] at *
      simp [addB, q2, hw, *]
    · refine runs_more baseO (More.of (boR_p2 a b n i) ⟨(okc gg0 (okc gg1 (okc gg2 (okc gg2 (okc gg3 (okc gg4 (okc gg5 okn))))))), rfl, ?_⟩) (by kernel_rfl) (by kernel_rfl) rfl (gtL (by decide)) (by decide) next
      clear next
      have hw : IntKind.i64.wrap ((i : Int) + 1) = ((i + 1 : Nat) : Int) := by rw [wr64 (by omega)]; rfl
      simp only [SS, Int.toNat_natCast] at *
      simp [addB, q2, hw, *]

theorem boZ_p0 (a b n : Int) (i : Nat) :
    isEnd (evTill Tryd.prog [] 300 (behind Tryd.f38 0) 900 38 (headOf Tryd.f38 0) (envAt Tryd.f38.ntmps (boE a b n i)) ([] ++ boX) ⟨[.s false], 90⟩) (endP ([]) (vN n) [] 130) =
    (OkL [(decide ((↑i : Int) < (4 : Int)), false)] ∧ n = n ∧ True) := by kernel_rfl

set_option maxHeartbeats 4000000 in
theorem boZ (a b n : Int) (i : Nat) (hi : i = 4) :
    RunsTo Tryd.prog 38 (headOf Tryd.f38 0) (envAt Tryd.f38.ntmps (boE a b n i)) (Sx.look ([] ++ boX)) 80 (vN n) (Sx.look []) 130 := by
  have gg0 : (decide ((↑i : Int) < (4 : Int))) = false := by first | (simp (disch := omega) only [SS] at *; omega) | (simp (disch := omega) only [SS] at *; done) | (simp_all; done)
  exact runs_last baseO (Sx.Ends.of (boZ_p0 a b n i) ⟨(okc gg0 okn), by first | rfl | simp_all, trivial⟩) (by kernel_rfl) rfl (gtL (by decide)) (by decide)

theorem bothI (a b : Int) : RunsTo Tryd.prog 38 [.code (bodyOf Tryd.f38)] (envOf [vN a, vN b] Tryd.f38.ntmps) (Sx.look []) 80 (vN (bothR a b)) (Sx.look []) 130 := by
  refine boS a b _ _ ?_
  refine boR a b _ 0 (by omega) _ _ ?_
  refine boR a b _ 1 (by omega) _ _ ?_
  refine boR a b _ 2 (by omega) _ _ ?_
  refine boR a b _ 3 (by omega) _ _ ?_
  exact boZ a b _ 4 rfl
def bothPC : PC := { args := [.v (.vi .i64 0), .v (.vi .i64 1)], heap := [], gs := [], G := 25, tp := 223, n := 80, n' := 130, cond := fun e => true, v := fun e => vN (bothR (eI e 0 []) (eI e 1 [])), post := fun e => [] }
theorem both_pc : PC.Runs Tryd.prog 38 Tryd.f38 (bodyOf Tryd.f38) bothPC := ⟨Tryd.func38, by kernel_rfl, (fun g hg => by cases hg), fun e H hc => bothI (eI e 0 []) (eI e 1 [])⟩
def sumsR : List (FuncId × Summ) := [(33, rrightPC.summ 50)]
theorem baseR : Base0 Tryd.prog sumsR := (baseO.cons Tryd.func33 (by kernel_rfl) (PC.summ_ok rright_pc gtop50))
theorem rparseI_p0 (s : List UInt8) :
    isEnd (evTill Tryd.prog sumsR 300 (99) 900 32 [.code (bodyOf Tryd.f32)] (envOf [vS s] Tryd.f32.ntmps) ([]) ⟨[.s false, .s false, .s true, .s false, .s true, .t, .t, .s false, .t, .s false], 80⟩) (endP ([]) (.tup [(false, .vi .i64 fun _ => rpN s), (false, .vb fun _ => rpA s), (false, .vi .i64 fun _ => rpB s)]) [] 130) =
    (OkL [(decide ((↑s.length : Int) < (2 : Int)), false), (decide ((↑s.length : Int) > (2 : Int)), false), (decide ((0 : Int) ≤ (0 : Int) ∧ (0 : Int) < (↑s.length : Int)), true), ((↑(s.getD (0 : Nat) (0 : UInt8)).toNat : Int) != (1 : Int), false), (decide ((0 : Int) ≤ (1 : Int) ∧ (1 : Int) < (↑s.length : Int)), true), ((IntKind.i64.wrap ((IntKind.i64.wrap (↑(s.getD (1 : Nat) (0 : UInt8)).toNat : Int)).tdiv (4 : Int))).tmod (2 : Int) == (1 : Int), false), (!rightR (IntKind.i64.wrap (↑(s.getD (1 : Nat) (0 : UInt8)).toNat : Int)), false)] ∧ (rpN s = IntKind.i64.wrap (↑(s.getD (1 : Nat) (0 : UInt8)).toNat : Int) ∧ rpA s = ((IntKind.i64.wrap ((IntKind.i64.wrap (↑(s.getD (1 : Nat) (0 : UInt8)).toNat : Int)).tdiv (4 : Int))).tmod (2 : Int) == (1 : Int)) ∧ rpB s = (0 : Int) ∧ True) ∧ True) := by kernel_rfl
theorem rparseI_p1 (s : List UInt8) :
    isEnd (evTill Tryd.prog sumsR 300 (99) 900 32 [.code (bodyOf Tryd.f32)] (envOf [vS s] Tryd.f32.ntmps) ([]) ⟨[.s false, .s false, .s true, .s false, .s true, .t, .t, .s false, .t, .s true], 80⟩) (endP ([]) (.tup [(false, .vi .i64 fun _ => rpN s), (false, .vb fun _ => rpA s), (false, .vi .i64 fun _ => rpB s)]) [] 130) =
    (OkL [(decide ((↑s.length : Int) < (2 : Int)), false), (decide ((↑s.length : Int) > (2 : Int)), false), (decide ((0 : Int) ≤ (0 : Int) ∧ (0 : Int) < (↑s.length : Int)), true), ((↑(s.getD (0 : Nat) (0 : UInt8)).toNat : Int) != (1 : Int), false), (decide ((0 : Int) ≤ (1 : Int) ∧ (1 : Int) < (↑s.length : Int)), true), ((IntKind.i64.wrap ((IntKind.i64.wrap (↑(s.getD (1 : Nat) (0 : UInt8)).toNat : Int)).tdiv (4 : Int))).tmod (2 : Int) == (1 : Int), false), (!rightR (IntKind.i64.wrap (↑(s.getD (1 : Nat) (0 : UInt8)).toNat : Int)), true)] ∧ (rpN s = (0 : Int) ∧ rpA s = false ∧ rpB s = (5 : Int) ∧ True) ∧ True) := by kernel_rfl
theorem rparseI_p2 (s : List UInt8) :
    isEnd (evTill Tryd.prog sumsR 300 (99) 900 32 [.code (bodyOf Tryd.f32)] (envOf [vS s] Tryd.f32.ntmps) ([]) ⟨[.s false, .s false, .s true, .s false, .s true, .t, .t, .s true, .t, .s false], 80⟩) (endP ([]) (.tup [(false, .vi .i64 fun _ => rpN s), (false, .vb fun _ => rpA s), (false, .vi .i64 fun _ => rpB s)]) [] 130) =
    (OkL [(decide ((↑s.length : Int) < (2 : Int)), false), (decide ((↑s.length : Int) > (2 : Int)), false), (decide ((0 : Int) ≤ (0 : Int) ∧ (0 : Int) < (↑s.length : Int)), true), ((↑(s.getD (0 : Nat) (0 : UInt8)).toNat : Int) != (1 : Int), false), (decide ((0 : Int) ≤ (1 : Int) ∧ (1 : Int) < (↑s.length : Int)), true), ((IntKind.i64.wrap ((IntKind.i64.wrap (↑(s.getD (1 : Nat) (0 : UInt8)).toNat : Int)).tdiv (4 : Int))).tmod (2 : Int) == (1 : Int), true), (!rightR (IntKind.i64.wrap (IntKind.i64.wrap (↑(s.getD (1 : Nat) (0 : UInt8)).toNat : Int) - (4 : Int))), false)] ∧ (rpN s = IntKind.i64.wrap (IntKind.i64.wrap (↑(s.getD (1 : Nat) (0 : UInt8)).toNat : Int) - (4 : Int)) ∧ rpA s = ((IntKind.i64.wrap ((IntKind.i64.wrap (↑(s.getD (1 : Nat) (0 : UInt8)).toNat : Int)).tdiv (4 : Int))).tmod (2 : Int) == (1 : Int)) ∧ rpB s = (0 : Int) ∧ True) ∧ True) := by kernel_rfl
theorem rparseI_p3 (s : List UInt8) :
    isEnd (evTill Tryd.prog sumsR 300 (99) 900 32 [.code (bodyOf Tryd.f32)] (envOf [vS s] Tryd.f32.ntmps) ([]) ⟨[.s false, .s false, .s true, .s false, .s true, .t, .t, .s true, .t, .s true], 80⟩) (endP ([]) (.tup [(false, .vi .i64 fun _ => rpN s), (false, .vb fun _ => rpA s), (false, .vi .i64 fun _ => rpB s)]) [] 130) =
    (OkL [(decide ((↑s.length : Int) < (2 : Int)), false), (decide ((↑s.length : Int) > (2 : Int)), false), (decide ((0 : Int) ≤ (0 : Int) ∧ (0 : Int) < (↑s.length : Int)), true), ((↑(s.getD (0 : Nat) (0 : UInt8)).toNat : Int) != (1 : Int), false), (decide ((0 : Int) ≤ (1 : Int) ∧ (1 : Int) < (↑s.length : Int)), true), ((IntKind.i64.wrap ((IntKind.i64.wrap (↑(s.getD (1 : Nat) (0 : UInt8)).toNat : Int)).tdiv (4 : Int))).tmod (2 : Int) == (1 : Int), true), (!rightR (IntKind.i64.wrap (IntKind.i64.wrap (↑(s.getD (1 : Nat) (0 : UInt8)).toNat : Int) - (4 : Int))), true)] ∧ (rpN s = (0 : Int) ∧ rpA s = false ∧ rpB s = (5 : Int) ∧ True) ∧ True) := by kernel_rfl
theorem rparseI_p4 (s : List UInt8) :
    isEnd (evTill Tryd.prog sumsR 300 (99) 900 32 [.code (bodyOf Tryd.f32)] (envOf [vS s] Tryd.f32.ntmps) ([]) ⟨[.s false, .s false, .s true, .s true], 80⟩) (endP ([]) (.tup [(false, .vi .i64 fun _ => rpN s), (false, .vb fun _ => rpA s), (false, .vi .i64 fun _ => rpB s)]) [] 130) =
    (OkL [(decide ((↑s.length : Int) < (2 : Int)), false), (decide ((↑s.length : Int) > (2 : Int)), false), (decide ((0 : Int) ≤ (0 : Int) ∧ (0 : Int) < (↑s.length : Int)), true), ((↑(s.getD (0 : Nat) (0 : UInt8)).toNat : Int) != (1 : Int), true)] ∧ (rpN s = (0 : Int) ∧ rpA s = false ∧ rpB s = (9 : Int) ∧ True) ∧ True) := by kernel_rfl
theorem rparseI_p5 (s : List UInt8) :
    isEnd (evTill Tryd.prog sumsR 300 (99) 900 32 [.code (bodyOf Tryd.f32)] (envOf [vS s] Tryd.f32.ntmps) ([]) ⟨[.s false, .s true], 80⟩) (endP ([]) (.tup [(false, .vi .i64 fun _ => rpN s), (false, .vb fun _ => rpA s), (false, .vi .i64 fun _ => rpB s)]) [] 130) =
    (OkL [(decide ((↑s.length : Int) < (2 : Int)), false), (decide ((↑s.length : Int) > (2 : Int)), true)] ∧ (rpN s = (0 : Int) ∧ rpA s = false ∧ rpB s = (4 : Int) ∧ True) ∧ True) := by kernel_rfl
theorem rparseI_p6 (s : List UInt8) :
    isEnd (evTill Tryd.prog sumsR 300 (99) 900 32 [.code (bodyOf Tryd.f32)] (envOf [vS s] Tryd.f32.ntmps) ([]) ⟨[.s true], 80⟩) (endP ([]) (.tup [(false, .vi .i64 fun _ => rpN s), (false, .vb fun _ => rpA s), (false, .vi .i64 fun _ => rpB s)]) [] 130) =
    (OkL [(decide ((↑s.length : Int) < (2 : Int)), true)] ∧ (rpN s = (0 : Int) ∧ rpA s = false ∧ rpB s = (3 : Int) ∧ True) ∧ True) := by kernel_rfl

set_option maxHeartbeats 4000000 in
theorem rparseI (s : List UInt8)  :
    RunsTo Tryd.prog 32 [.code (bodyOf Tryd.f32)] (envOf [vS s] Tryd.f32.ntmps) (Sx.look ([])) 80 ((.tup [(false, .vi .i64 fun _ => rpN s), (false, .vb fun _ => rpA s), (false, .vi .i64 fun _ => rpB s)])) (Sx.look ([])) 130 := by
  refine bcase (c := (decide ((↑s.length : Int) < (2 : Int)))) (fun gg0 => ?_) (fun gg0 => ?_)
  · refine bcase (c := (decide ((↑s.length : Int) > (2 : Int)))) (fun gg1 => ?_) (fun gg1 => ?_)
    · have gg2 : (decide ((0 : Int) ≤ (0 : Int) ∧ (0 : Int) < (↑s.length : Int))) = true := by (have h0 := u8_lt (s.getD 0 0)); (have h1 := u8_lt (s.getD 1 0)); first | (simp (disch := omega) only [SS] at *; omega) | (simp (disch := omega) only [SS] at *; done)
      refine bcase (c := ((↑(s.getD (0 : Nat) (0 : UInt8)).toNat : Int) != (1 : Int))) (fun gg3 => ?_) (fun gg3 => ?_)
      · have gg4 : (decide ((0 : Int) ≤ (1 : Int) ∧ (1 : Int) < (↑s.length : Int))) = true := by (have h0 := u8_lt (s.getD 0 0)); (have h1 := u8_lt (s.getD 1 0)); first | (simp (disch := omega) only [SS] at *; omega) | (simp (disch := omega) only [SS] at *; done)
        refine bcase (c := ((IntKind.i64.wrap ((IntKind.i64.wrap (↑(s.getD (1 : Nat) (0 : UInt8)).toNat : Int)).tdiv (4 : Int))).tmod (2 : Int) == (1 : Int))) (fun gg5 => ?_) (fun gg5 => ?_)
        · refine bcase (c := (!rightR (IntKind.i64.wrap (↑(s.getD (1 : Nat) (0 : UInt8)).toNat : Int)))) (fun gg6 => ?_) (fun gg6 => ?_)
          · refine runs_last baseR (Sx.Ends.of (rparseI_p0 s) ⟨(okc gg0 (okc gg1 (okc gg2 (okc gg3 (okc gg4 (okc gg5 (okc gg6 okn))))))), ?_⟩) (by kernel_rfl) rfl (gtL (by decide)) (by decide)
            have h0 := u8_lt (s.getD 0 0)
            have h1 := u8_lt (s.getD 1 0)
            simp (disch := omega) only [SS] at *
            refine ⟨⟨?_, ?_, ?_⟩, trivial⟩
            all_goals simp only [rpN, rpA, rpB, s0, s1, maskR, ackR, q2]
            all_goals first | (simp_all; done) | grind
          · refine runs_last baseR (Sx.Ends.of (rparseI_p1 s) ⟨(okc gg0 (okc gg1 (okc gg2 (okc gg3 (okc gg4 (okc gg5 (okc gg6 okn))))))), ?_⟩) (by kernel_rfl) rfl (gtL (by decide)) (by decide)
            have h0 := u8_lt (s.getD 0 0)
            have h1 := u8_lt (s.getD 1 0)
            simp (disch := omega) only [SS] at *
            refine ⟨⟨?_, ?_, ?_⟩, trivial⟩
            all_goals simp only [rpN, rpA, rpB, s0, s1, maskR, ackR, q2]
            all_goals first | (simp_all; done) | grind
        · refine bcase (c := (!rightR (IntKind.i64.wrap (IntKind.i64.wrap (↑(s.getD (1 : Nat) (0 : UInt8)).toNat : Int) - (4 : Int))))) (fun gg6 => ?_) (fun gg6 => ?_)
          · refine runs_last baseR (Sx.Ends.of (rparseI_p2 s) ⟨(okc gg0 (okc gg1 (okc gg2 (okc gg3 (okc gg4 (okc gg5 (okc gg6 okn))))))), ?_⟩) (by kernel_rfl) rfl (gtL (by decide)) (by decide)
            have h0 := u8_lt (s.getD 0 0)
            have h1 := u8_lt (s.getD 1 0)
            simp (disch := omega) only [SS] at *
            refine ⟨⟨?_, ?_, ?_⟩, trivial⟩
            all_goals simp only [rpN, rpA, rpB, s0, s1, maskR, ackR, q2]
            all_goals first | (simp_all; done) | grind
          · refine runs_last baseR (Sx.Ends.of (rparseI_p3 s) ⟨(okc gg0 (okc gg1 (okc gg2 (okc gg3 (okc gg4 (okc gg5 (okc gg6 okn))))))), ?_⟩) (by kernel_rfl) rfl (gtL (by decide)) (by decide)
            have h0 := u8_lt (s.getD 0 0)
            have h1 := u8_lt (s.getD 1 0)
            simp (disch := omega) only [SS] at *
            refine ⟨⟨?_, ?_, ?_⟩, trivial⟩
            all_goals simp only [rpN, rpA, rpB, s0, s1, maskR, ackR, q2]
            all_goals first | (simp_all; done) | grind
      · refine runs_last baseR (Sx.Ends.of (rparseI_p4 s) ⟨(okc gg0 (okc gg1 (okc gg2 (okc gg3 okn)))), ?_⟩) (by kernel_rfl) rfl (gtL (by decide)) (by decide)
        have h0 := u8_lt (s.getD 0 0)
        have h1 := u8_lt (s.getD 1 0)
        simp (disch := omega) only [SS] at *
        refine ⟨⟨?_, ?_, ?_⟩, trivial⟩
        all_goals simp only [rpN, rpA, rpB, s0, s1, maskR, ackR, q2]
        all_goals first | (simp_all; done) | grind
    · refine runs_last baseR (Sx.Ends.of (rparseI_p5 s) ⟨(okc gg0 (okc gg1 okn)), ?_⟩) (by kernel_rfl) rfl (gtL (by decide)) (by decide)
      have h0 := u8_lt (s.getD 0 0)
      have h1 := u8_lt (s.getD 1 0)
      simp (disch := omega) only [SS] at *
      refine ⟨⟨?_, ?_, ?_⟩, trivial⟩
      all_goals simp only [rpN, rpA, rpB, s0, s1, maskR, ackR, q2]
      all_goals first | (simp_all; done) | grind
  · refine runs_last baseR (Sx.Ends.of (rparseI_p6 s) ⟨(okc gg0 okn), ?_⟩) (by kernel_rfl) rfl (gtL (by decide)) (by decide)
    have h0 := u8_lt (s.getD 0 0)
    have h1 := u8_lt (s.getD 1 0)
    simp (disch := omega) only [SS] at *
    refine ⟨⟨?_, ?_, ?_⟩, trivial⟩
    all_goals simp only [rpN, rpA, rpB, s0, s1, maskR, ackR, q2]
    all_goals first | (simp_all; done) | grind

def rparsePC : PC := { args := [.v (.vs 0)], heap := [], gs := [], G := 25, tp := 223, n := 80, n' := 130, cond := fun e => true, v := fun e => (.tup [(false, .vi .i64 fun _ => rpN (eS e 0 [])), (false, .vb fun _ => rpA (eS e 0 [])), (false, .vi .i64 fun _ => rpB (eS e 0 []))]), post := fun e => [] }
theorem rparse_pc : PC.Runs Tryd.prog 32 Tryd.f32 (bodyOf Tryd.f32) rparsePC := ⟨Tryd.func32, by kernel_rfl, (fun g hg => by cases hg), fun e H hc => rparseI (eS e 0 [])⟩
end Go.Proofs.YtealbjkhjpmilaaDoor
