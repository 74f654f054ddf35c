/- Modes, act by act: the law's steps. -/
import Derived.Test.YtealbjkhjpmilaaDoorYfC
set_option linter.unusedSimpArgs false
set_option linter.unusedVariables false
set_option maxRecDepth 100000
namespace Go.Proofs.YtealbjkhjpmilaaDoor
open Go.Sx


def mf0 : Ix → Nat := fun is => is.headD 0
def actE (N : Nat) (K M : Ix → Int) (bl : Ix → Nat) : List Ent := [⟨100, false, none, 3, .ta N (.tc (.vi .i64 K) (.tc (.vi .i64 M) (.tc (.vl 101 mf0 1 [] bl) .t0)))⟩]
def famE (N : Nat) (bl : Ix → Nat) (B : Ix → Int) : List Ent := [⟨101, false, some (N, fun i => bl [i]), 1, .vi .u8 B⟩]
def XA (t0 t1 t2 t3 t4 t5 t6 t7 t8 t9 t10 t11 t12 t13 t14 t15 : List UInt8) (N : Nat) (K M : Ix → Int) (bl : Ix → Nat) (B : Ix → Int) : List Ent := allG t0 t1 t2 t3 t4 t5 t6 t7 t8 t9 t10 t11 t12 t13 t14 t15 ++ (actE N K M bl ++ famE N bl B)
def htE (c hd : Int) (w : Bool) (tl : Int) : List Ent := [⟨120, true, none, 2, .tc (.vi .i64 fun _ => hd) (.tc (.vb fun _ => w) .t0)⟩, ⟨121, true, none, 2, .tc (.vi .i64 fun _ => tl) (.tc (.vi .i64 fun _ => iand .i64 c 27) .t0)⟩]
def lcE (c : Int) (N i : Nat) (hd : Int) (w : Bool) (tl : Int) : List (Nat × SV) := [(0, vN c), (5, vP 120), (6, vP 121), (7, vN hd), (8, vB w), (9, vN tl), (34, vL 100 3 N), (35, vN N), (36, vN i)]
theorem bl_len2 (B : Ix → Int) (i n : Nat) : (bytesOf B [i] 0 n).length = n := by simp [bytesOf]
theorem by_get2 {B : Ix → Int} {i n k : Nat} (hk : k < n) (h : 0 ≤ B [i, k] ∧ B [i, k] < 256) : ((((bytesOf B [i] 0 n).getD k 0).toNat : Nat) : Int) = B [i, k] := by
  simp [bytesOf, List.getD, List.getElem?_map, hk]
  omega
theorem rp_short {s : List UInt8} (h : s.length < 2) : rpB s = 3 ∧ rpN s = 0 ∧ rpA s = false := by simp [rpB, rpN, rpA, h]
theorem rp_more {s : List UInt8} (h : 2 < s.length) : rpB s = 4 ∧ rpN s = 0 ∧ rpA s = false := by
  have : ¬ s.length < 2 := by omega
  simp [rpB, rpN, rpA, h, this]
theorem rp_kind {s : List UInt8} (h : s.length = 2) (h0 : s0 s ≠ 1) : rpB s = 9 ∧ rpN s = 0 ∧ rpA s = false := by simp [rpB, rpN, rpA, h, h0]
theorem rp_form {s : List UInt8} (h : s.length = 2) (h0 : s0 s = 1) (hr : rightR (maskR (s1 s)) = false) : rpB s = 5 ∧ rpN s = 0 ∧ rpA s = false := by simp [rpB, rpN, rpA, h, h0, hr]
theorem rp_ok {s : List UInt8} (h : s.length = 2) (h0 : s0 s = 1) (hr : rightR (maskR (s1 s)) = true) : rpB s = 0 ∧ rpN s = maskR (s1 s) ∧ rpA s = ackR (s1 s) := by simp [rpB, rpN, rpA, h, h0, hr]
theorem nmE : numOf 25 = 5 ∧ numOf 26 = 10 ∧ numOf 27 = 8 ∧ numOf 28 = 3 ∧ numOf 29 = 4 ∧ numOf 30 = 9 := ⟨rfl, rfl, rfl, rfl, rfl, rfl⟩
theorem iand_low {c : Int} {k : Nat} (hk : k < 32) : iand .i64 c k = iand .i64 (c % 32) k := by
  have e : ∀ x : Int, (BitVec.ofInt 64 x &&& BitVec.ofInt 64 (k : Int)).toNat = (x % 32).toNat &&& k := by
    intro x
    rw [BitVec.toNat_and, BitVec.toNat_ofInt, BitVec.toNat_ofInt]
    have e2 : ((k : Int) % ((2 ^ 64 : Nat) : Int)).toNat = k := by
      have : ((2 ^ 64 : Nat) : Int) = 18446744073709551616 := by decide
      rw [this]; omega
    rw [e2]
    have e3 : ∀ y : Nat, y &&& k = (y % 32) &&& k := by
      intro y
      have h1 : (y &&& k) % 2 ^ 5 = (y % 2 ^ 5) &&& (k % 2 ^ 5) := Nat.and_mod_two_pow
      have h2 : k % 2 ^ 5 = k := by omega
      rw [h2] at h1
      have h3 : (y &&& k) ≤ k := Nat.and_le_right
      have h4 : (y &&& k) % 2 ^ 5 = y &&& k := by omega
      rw [h4] at h1
      exact h1
    rw [e3]
    congr 1
    have : ((2 ^ 64 : Nat) : Int) = 18446744073709551616 := by decide
    rw [this]
    omega
  unfold iand
  have e1 := e c
  have e2 := e (c % 32)
  have e3 : c % 32 % 32 = c % 32 := by omega
  rw [e3, ← e1] at e2
  exact congrArg (fun n : Nat => IntKind.i64.wrap (n : Int)) e2.symm
theorem small_both : ((List.range 32).all fun n => (List.range 32).all fun c => !rightR n || (iand .i64 n (iand .i64 c 27) == bothR n c && ior .i64 (bothR n c) 4 == bothR n c + 4 && decide (0 ≤ bothR n c) && decide (bothR n c ≤ 27))) = true := by kernel_rfl
theorem addB_low {a c n : Int} {t : Nat} (ht : t < 32) : addB a c n t = addB a (c % 32) n t := by
  unfold addB; rw [iand_low ht]
theorem bothR_low (a c : Int) : bothR a c = bothR a (c % 32) := by
  unfold bothR
  have h1 := fun n => addB_low (a := a) (c := c) (n := n) (t := 1) (by decide)
  have h2 := fun n => addB_low (a := a) (c := c) (n := n) (t := 2) (by decide)
  have h3 := fun n => addB_low (a := a) (c := c) (n := n) (t := 8) (by decide)
  have h4 := fun n => addB_low (a := a) (c := c) (n := n) (t := 16) (by decide)
  simp only [show ((1 : Nat) : Int) = 1 from rfl, show ((2 : Nat) : Int) = 2 from rfl, show ((8 : Nat) : Int) = 8 from rfl, show ((16 : Nat) : Int) = 16 from rfl] at h1 h2 h3 h4
  rw [h1, h2, h3, h4]
theorem both_eq {n : Int} (c : Int) (h : rightR n = true) : iand .i64 n (iand .i64 c 27) = bothR n c ∧ ior .i64 (bothR n c) 4 = bothR n c + 4 ∧ 0 ≤ bothR n c ∧ bothR n c ≤ 27 := by
  have hc := h
  simp only [rightR, Bool.and_eq_true, decide_eq_true_eq] at hc
  obtain ⟨k, rfl⟩ : ∃ k : Nat, n = k := ⟨n.toNat, by omega⟩
  obtain ⟨d, hd⟩ : ∃ d : Nat, c % 32 = d := ⟨(c % 32).toNat, by omega⟩
  have h1 := all_nat small_both (n := k) (by omega)
  have h2 := List.all_eq_true.1 h1 d (by simp; omega)
  rw [bothR_low, hd, show (27 : Int) = ((27 : Nat) : Int) from rfl, iand_low (c := c) (by decide), hd]
  simp [h] at h2
  obtain ⟨⟨⟨a, b⟩, e⟩, f⟩ := h2
  exact ⟨a, b, e, f⟩
def sumsA : List (FuncId × Summ) := [(35, numS), (14, aliveC.summ 50), (36, rightPC.summ 50), (33, rrightPC.summ 50), (38, bothPC.summ 50), (32, rparsePC.summ 50)]
theorem baseA : Base0 Tryd.prog sumsA := ((((((baseO.cons Tryd.func32 (by kernel_rfl) (PC.summ_ok rparse_pc gtop50)).cons Tryd.func38 (by kernel_rfl) (PC.summ_ok both_pc gtop50)).cons Tryd.func33 (by kernel_rfl) (PC.summ_ok rright_pc gtop50)).cons Tryd.func36 (by kernel_rfl) (PC.summ_ok right_pc gtop50)).cons Tryd.func14 (by kernel_rfl) (PC.summ_ok alive_pc gtop50)).cons Tryd.func35 (by kernel_rfl) numS_ok)
theorem along_p0 (t0 t1 t2 t3 t4 t5 t6 t7 t8 t9 t10 t11 t12 t13 t14 t15 : List UInt8) (c : Int) (N : Nat) (K M : Ix → Int) (bl : Ix → Nat) (B : Ix → Int) :
    isEnd (evTill Tryd.prog sumsA 400 (behind Tryd.f6 0) 900 6 [.code (bodyOf Tryd.f6)] (envOf [vN c, vL 100 3 N] Tryd.f6.ntmps) (XA t0 t1 t2 t3 t4 t5 t6 t7 t8 t9 t10 t11 t12 t13 t14 t15 N K M bl B ++ []) ⟨[.t, .f, .s true], 110⟩) (endP ([]) YES [] 900) =
    (OkL [(decide ((↑N : Int) > (60 : Int)), true)] ∧ true = true ∧ True) := by kernel_rfl

set_option maxHeartbeats 4000000 in
theorem along (t0 t1 t2 t3 t4 t5 t6 t7 t8 t9 t10 t11 t12 t13 t14 t15 : List UInt8) (c : Int) (N : Nat) (K M : Ix → Int) (bl : Ix → Nat) (B : Ix → Int) (hN : 60 < N) :
    RunsTo Tryd.prog 6 [.code (bodyOf Tryd.f6)] (envOf [vN c, vL 100 3 N] Tryd.f6.ntmps) (Sx.look (XA t0 t1 t2 t3 t4 t5 t6 t7 t8 t9 t10 t11 t12 t13 t14 t15 N K M bl B ++ [])) 110 YES (Sx.look []) 900 := by
  have gg0 : (decide ((↑N : Int) > (60 : Int))) = true := by first | (simp (disch := omega) only [SS] at *; omega) | (simp (disch := omega) only [SS] at *; done) | (simp_all; done)
  exact runs_last baseA (Sx.Ends.of (along_p0 t0 t1 t2 t3 t4 t5 t6 t7 t8 t9 t10 t11 t12 t13 t14 t15 c N K M bl B) ⟨(okc gg0 okn), by first | rfl | simp_all, trivial⟩) (by kernel_rfl) rfl (gtL (by decide)) (by decide)

theorem astart_p0 (t0 t1 t2 t3 t4 t5 t6 t7 t8 t9 t10 t11 t12 t13 t14 t15 : List UInt8) (c : Int) (N : Nat) (K M : Ix → Int) (bl : Ix → Nat) (B : Ix → Int) :
    isMore (evTill Tryd.prog sumsA 400 (behind Tryd.f6 0) 900 6 [.code (bodyOf Tryd.f6)] (envOf [vN c, vL 100 3 N] Tryd.f6.ntmps) (XA t0 t1 t2 t3 t4 t5 t6 t7 t8 t9 t10 t11 t12 t13 t14 t15 N K M bl B ++ []) ⟨[.t, .f, .s false, .f, .f], 110⟩) (moreP (headOf Tryd.f6 0) ([((120 : Nat), Rn.to (190 : Nat)), ((121 : Nat), Rn.to (191 : Nat))]) Tryd.f6.ntmps (lcE c N 0 0 false 0) (htE c 0 false 0) 900) =
    (OkL [(decide ((↑N : Int) > (60 : Int)), false)] ∧ headOf Tryd.f6 (0 : Nat) = headOf Tryd.f6 (0 : Nat) ∧ (c = c ∧ (0 : Nat) = (0 : Nat) ∧ (0 : Nat) = (0 : Nat) ∧ (0 : Int) = (0 : Int) ∧ false = false ∧ (0 : Int) = (0 : Int) ∧ ((0 : Nat) = (0 : Nat) ∧ N = N) ∧ (↑N : Int) = (↑N : Int) ∧ (↑(0 : Nat) : Int) = (0 : Int)) ∧ ((0 : Int) = (0 : Int) ∧ false = false) ∧ (0 : Int) = (0 : Int) ∧ iand IntKind.i64 c (27 : Int) = iand IntKind.i64 c (27 : Int)) := by kernel_rfl

set_option maxHeartbeats 4000000 in
theorem astart (t0 t1 t2 t3 t4 t5 t6 t7 t8 t9 t10 t11 t12 t13 t14 t15 : List UInt8) (c : Int) (N : Nat) (K M : Ix → Int) (bl : Ix → Nat) (B : Ix → Int) (hN : N ≤ 60) (next : RunsTo Tryd.prog 6 (headOf Tryd.f6 0) (envAt Tryd.f6.ntmps (lcE c N 0 0 false 0)) (Sx.look (XA t0 t1 t2 t3 t4 t5 t6 t7 t8 t9 t10 t11 t12 t13 t14 t15 N K M bl B ++ htE c 0 false 0)) 110 YES (Sx.look []) 900) :
    RunsTo Tryd.prog 6 [.code (bodyOf Tryd.f6)] (envOf [vN c, vL 100 3 N] Tryd.f6.ntmps) (Sx.look (XA t0 t1 t2 t3 t4 t5 t6 t7 t8 t9 t10 t11 t12 t13 t14 t15 N K M bl B ++ [])) 110 YES (Sx.look []) 900 := by
  have gg0 : (decide ((↑N : Int) > (60 : Int))) = false := by clear next; first | (simp (disch := omega) only [SS] at *; omega) | (simp (disch := omega) only [SS] at *; done) | (simp_all; done)
  refine runs_more baseA (More.of (astart_p0 t0 t1 t2 t3 t4 t5 t6 t7 t8 t9 t10 t11 t12 t13 t14 t15 c N K M bl B) ⟨(okc gg0 okn), rfl, ?_⟩) (by kernel_rfl) (by kernel_rfl) rfl (gtL (by decide)) (by decide) next
  clear next
  simp

theorem adone_p0 (t0 t1 t2 t3 t4 t5 t6 t7 t8 t9 t10 t11 t12 t13 t14 t15 : List UInt8) (c : Int) (N : Nat) (K M : Ix → Int) (bl : Ix → Nat) (B : Ix → Int) (i : Nat) (hd : Int) (w : Bool) (tl : Int) :
    isEnd (evTill Tryd.prog sumsA 400 (behind Tryd.f6 0) 900 6 (headOf Tryd.f6 0) (envAt Tryd.f6.ntmps (lcE c N i hd w tl)) (XA t0 t1 t2 t3 t4 t5 t6 t7 t8 t9 t10 t11 t12 t13 t14 t15 N K M bl B ++ htE c hd w tl) ⟨[.s false], 130⟩) (endP ([]) YES [] 900) =
    (OkL [(decide ((↑i : Int) < (↑N : Int)), false)] ∧ true = true ∧ True) := by kernel_rfl

set_option maxHeartbeats 4000000 in
theorem adone (t0 t1 t2 t3 t4 t5 t6 t7 t8 t9 t10 t11 t12 t13 t14 t15 : List UInt8) (c : Int) (N : Nat) (K M : Ix → Int) (bl : Ix → Nat) (B : Ix → Int) (i : Nat) (hd : Int) (w : Bool) (tl : Int) (hi : N ≤ i) :
    RunsTo Tryd.prog 6 (headOf Tryd.f6 0) (envAt Tryd.f6.ntmps (lcE c N i hd w tl)) (Sx.look (XA t0 t1 t2 t3 t4 t5 t6 t7 t8 t9 t10 t11 t12 t13 t14 t15 N K M bl B ++ htE c hd w tl)) 110 YES (Sx.look []) 900 := by
  have gg0 : (decide ((↑i : Int) < (↑N : Int))) = false := by first | (simp (disch := omega) only [SS] at *; omega) | (simp (disch := omega) only [SS] at *; done) | (simp_all; done)
  exact runs_last baseA (Sx.Ends.of (adone_p0 t0 t1 t2 t3 t4 t5 t6 t7 t8 t9 t10 t11 t12 t13 t14 t15 c N K M bl B i hd w tl) ⟨(okc gg0 okn), by first | rfl | simp_all, trivial⟩) (by kernel_rfl) rfl (gtL (by decide)) (by decide)

theorem afull_p0 (t0 t1 t2 t3 t4 t5 t6 t7 t8 t9 t10 t11 t12 t13 t14 t15 : List UInt8) (c : Int) (N : Nat) (K M : Ix → Int) (bl : Ix → Nat) (B : Ix → Int) (i : Nat) (hd : Int) (w : Bool) (tl : Int) :
    isEnd (evTill Tryd.prog sumsA 400 (behind Tryd.f6 0) 900 6 (headOf Tryd.f6 0) (envAt Tryd.f6.ntmps (lcE c N i hd w tl)) (XA t0 t1 t2 t3 t4 t5 t6 t7 t8 t9 t10 t11 t12 t13 t14 t15 N K M bl B ++ htE c hd w tl) ⟨[.s true, .s true, .s true, .s true, .s true], 130⟩) (endP ([]) YES [] 900) =
    (OkL [(decide ((↑i : Int) < (↑N : Int)), true), (decide ((0 : Int) ≤ (↑i : Int) ∧ (↑i : Int) < (↑N : Int)), true), (((0 : Nat) + (↑i : Int).toNat).blt N, true), (((0 : Nat) + (↑i : Int).toNat).blt N, true), (decide ((↑(bl [(0 : Nat) + (↑i : Int).toNat]) : Int) > (20 : Int)), true)] ∧ true = true ∧ True) := by kernel_rfl

set_option maxHeartbeats 4000000 in
theorem afull (t0 t1 t2 t3 t4 t5 t6 t7 t8 t9 t10 t11 t12 t13 t14 t15 : List UInt8) (c : Int) (N : Nat) (K M : Ix → Int) (bl : Ix → Nat) (B : Ix → Int) (i : Nat) (hd : Int) (w : Bool) (tl : Int) (hi : i < N) (hN : N ≤ 60) (hb : 20 < bl [i]) :
    RunsTo Tryd.prog 6 (headOf Tryd.f6 0) (envAt Tryd.f6.ntmps (lcE c N i hd w tl)) (Sx.look (XA t0 t1 t2 t3 t4 t5 t6 t7 t8 t9 t10 t11 t12 t13 t14 t15 N K M bl B ++ htE c hd w tl)) 110 YES (Sx.look []) 900 := by
  have gg0 : (decide ((↑i : Int) < (↑N : Int))) = true := by first | (simp (disch := omega) only [SS] at *; omega) | (simp (disch := omega) only [SS] at *; done) | (simp_all; done)
  have gg1 : (decide ((0 : Int) ≤ (↑i : Int) ∧ (↑i : Int) < (↑N : Int))) = true := by first | (simp (disch := omega) only [SS] at *; omega) | (simp (disch := omega) only [SS] at *; done) | (simp_all; done)
  have gg2 : (((0 : Nat) + (↑i : Int).toNat).blt N) = true := by first | (simp (disch := omega) only [SS] at *; omega) | (simp (disch := omega) only [SS] at *; done) | (simp_all; done)
  have gg3 : (decide ((↑(bl [(0 : Nat) + (↑i : Int).toNat]) : Int) > (20 : Int))) = true := by first | (simp (disch := omega) only [SS] at *; omega) | (simp (disch := omega) only [SS] at *; done) | (simp_all; done)
  exact runs_last baseA (Sx.Ends.of (afull_p0 t0 t1 t2 t3 t4 t5 t6 t7 t8 t9 t10 t11 t12 t13 t14 t15 c N K M bl B i hd w tl) ⟨(okc gg0 (okc gg1 (okc gg2 (okc gg2 (okc gg3 okn))))), by first | rfl | simp_all, trivial⟩) (by kernel_rfl) rfl (gtL (by decide)) (by decide)

theorem k0form_p0 (t0 t1 t2 t3 t4 t5 t6 t7 t8 t9 t10 t11 t12 t13 t14 t15 : List UInt8) (c : Int) (N : Nat) (K M : Ix → Int) (bl : Ix → Nat) (B : Ix → Int) (i : Nat) (hd : Int) (w : Bool) (tl : Int) :
    isMore (evTill Tryd.prog sumsA 400 (behind Tryd.f6 0) 900 6 (headOf Tryd.f6 0) (envAt Tryd.f6.ntmps (lcE c N i hd w tl)) (XA t0 t1 t2 t3 t4 t5 t6 t7 t8 t9 t10 t11 t12 t13 t14 t15 N K M bl B ++ htE c hd w tl) ⟨[.s true, .s true, .s true, .s true, .s false, .s true, .s true, .t, .s true, .t, .s true, .s false, .s false, .t, .s true, .f, .f, .t, .f, .f, .s false, .s false, .s false], 130⟩) (moreP (headOf Tryd.f6 0) ([]) Tryd.f6.ntmps (lcE c N (i + 1) hd w tl) (htE c hd w tl) 900) =
    (OkL [(decide ((↑i : Int) < (↑N : Int)), true), (decide ((0 : Int) ≤ (↑i : Int) ∧ (↑i : Int) < (↑N : Int)), true), (((0 : Nat) + (↑i : Int).toNat).blt N, true), (((0 : Nat) + (↑i : Int).toNat).blt N, true), (decide ((↑(bl [(0 : Nat) + (↑i : Int).toNat]) : Int) > (20 : Int)), false), ((mf0 [(0 : Nat) + (↑i : Int).toNat]).blt N, true), (((0 : Nat) + bl [(0 : Nat) + (↑i : Int).toNat]).ble (bl [mf0 [(0 : Nat) + (↑i : Int).toNat]]), true), (K [(0 : Nat) + (↑i : Int).toNat] == (0 : Int), true), (!rightC (M [(0 : Nat) + (↑i : Int).toNat]), true), (hd == M [(0 : Nat) + (↑i : Int).toNat], false), (w, false), (!rightR (M [(0 : Nat) + (↑i : Int).toNat]), true), (hd != hd, false), (!w == w, false), (tl != tl, false)] ∧ headOf Tryd.f6 (0 : Nat) = headOf Tryd.f6 (0 : Nat) ∧ (c = c ∧ (0 : Nat) = (0 : Nat) ∧ (0 : Nat) = (0 : Nat) ∧ hd = hd ∧ w = w ∧ tl = tl ∧ ((0 : Nat) = (0 : Nat) ∧ N = N) ∧ (↑N : Int) = (↑N : Int) ∧ (↑(i + (1 : Nat)) : Int) = IntKind.i64.wrap ((↑i : Int) + (1 : Int))) ∧ (hd = hd ∧ w = w) ∧ tl = tl ∧ iand IntKind.i64 c (27 : Int) = iand IntKind.i64 c (27 : Int)) := by kernel_rfl
theorem k0form_p1 (t0 t1 t2 t3 t4 t5 t6 t7 t8 t9 t10 t11 t12 t13 t14 t15 : List UInt8) (c : Int) (N : Nat) (K M : Ix → Int) (bl : Ix → Nat) (B : Ix → Int) (i : Nat) (hd : Int) (w : Bool) (tl : Int) :
    isMore (evTill Tryd.prog sumsA 400 (behind Tryd.f6 0) 900 6 (headOf Tryd.f6 0) (envAt Tryd.f6.ntmps (lcE c N i hd w tl)) (XA t0 t1 t2 t3 t4 t5 t6 t7 t8 t9 t10 t11 t12 t13 t14 t15 N K M bl B ++ htE c hd w tl) ⟨[.s true, .s true, .s true, .s true, .s false, .s true, .s true, .t, .s true, .t, .s true, .s false, .s true, .t, .s true, .f, .f, .t, .f, .f, .s false, .s false, .s false], 130⟩) (moreP (headOf Tryd.f6 0) ([]) Tryd.f6.ntmps (lcE c N (i + 1) hd w tl) (htE c hd w tl) 900) =
    (OkL [(decide ((↑i : Int) < (↑N : Int)), true), (decide ((0 : Int) ≤ (↑i : Int) ∧ (↑i : Int) < (↑N : Int)), true), (((0 : Nat) + (↑i : Int).toNat).blt N, true), (((0 : Nat) + (↑i : Int).toNat).blt N, true), (decide ((↑(bl [(0 : Nat) + (↑i : Int).toNat]) : Int) > (20 : Int)), false), ((mf0 [(0 : Nat) + (↑i : Int).toNat]).blt N, true), (((0 : Nat) + bl [(0 : Nat) + (↑i : Int).toNat]).ble (bl [mf0 [(0 : Nat) + (↑i : Int).toNat]]), true), (K [(0 : Nat) + (↑i : Int).toNat] == (0 : Int), true), (!rightC (M [(0 : Nat) + (↑i : Int).toNat]), true), (hd == M [(0 : Nat) + (↑i : Int).toNat], false), (w, true), (!rightR (M [(0 : Nat) + (↑i : Int).toNat]), true), (hd != hd, false), (!w == w, false), (tl != tl, false)] ∧ headOf Tryd.f6 (0 : Nat) = headOf Tryd.f6 (0 : Nat) ∧ (c = c ∧ (0 : Nat) = (0 : Nat) ∧ (0 : Nat) = (0 : Nat) ∧ hd = hd ∧ w = w ∧ tl = tl ∧ ((0 : Nat) = (0 : Nat) ∧ N = N) ∧ (↑N : Int) = (↑N : Int) ∧ (↑(i + (1 : Nat)) : Int) = IntKind.i64.wrap ((↑i : Int) + (1 : Int))) ∧ (hd = hd ∧ w = w) ∧ tl = tl ∧ iand IntKind.i64 c (27 : Int) = iand IntKind.i64 c (27 : Int)) := by kernel_rfl
theorem k0form_p2 (t0 t1 t2 t3 t4 t5 t6 t7 t8 t9 t10 t11 t12 t13 t14 t15 : List UInt8) (c : Int) (N : Nat) (K M : Ix → Int) (bl : Ix → Nat) (B : Ix → Int) (i : Nat) (hd : Int) (w : Bool) (tl : Int) :
    isMore (evTill Tryd.prog sumsA 400 (behind Tryd.f6 0) 900 6 (headOf Tryd.f6 0) (envAt Tryd.f6.ntmps (lcE c N i hd w tl)) (XA t0 t1 t2 t3 t4 t5 t6 t7 t8 t9 t10 t11 t12 t13 t14 t15 N K M bl B ++ htE c hd w tl) ⟨[.s true, .s true, .s true, .s true, .s false, .s true, .s true, .t, .s true, .t, .s true, .s true, .s false, .t, .s true, .f, .f, .t, .f, .f, .s false, .s false, .s false], 130⟩) (moreP (headOf Tryd.f6 0) ([]) Tryd.f6.ntmps (lcE c N (i + 1) hd w tl) (htE c hd w tl) 900) =
    (OkL [(decide ((↑i : Int) < (↑N : Int)), true), (decide ((0 : Int) ≤ (↑i : Int) ∧ (↑i : Int) < (↑N : Int)), true), (((0 : Nat) + (↑i : Int).toNat).blt N, true), (((0 : Nat) + (↑i : Int).toNat).blt N, true), (decide ((↑(bl [(0 : Nat) + (↑i : Int).toNat]) : Int) > (20 : Int)), false), ((mf0 [(0 : Nat) + (↑i : Int).toNat]).blt N, true), (((0 : Nat) + bl [(0 : Nat) + (↑i : Int).toNat]).ble (bl [mf0 [(0 : Nat) + (↑i : Int).toNat]]), true), (K [(0 : Nat) + (↑i : Int).toNat] == (0 : Int), true), (!rightC (M [(0 : Nat) + (↑i : Int).toNat]), true), (hd == M [(0 : Nat) + (↑i : Int).toNat], true), (w, false), (!rightR (M [(0 : Nat) + (↑i : Int).toNat]), true), (hd != hd, false), (!w == w, false), (tl != tl, false)] ∧ headOf Tryd.f6 (0 : Nat) = headOf Tryd.f6 (0 : Nat) ∧ (c = c ∧ (0 : Nat) = (0 : Nat) ∧ (0 : Nat) = (0 : Nat) ∧ hd = hd ∧ w = w ∧ tl = tl ∧ ((0 : Nat) = (0 : Nat) ∧ N = N) ∧ (↑N : Int) = (↑N : Int) ∧ (↑(i + (1 : Nat)) : Int) = IntKind.i64.wrap ((↑i : Int) + (1 : Int))) ∧ (hd = hd ∧ w = w) ∧ tl = tl ∧ iand IntKind.i64 c (27 : Int) = iand IntKind.i64 c (27 : Int)) := by kernel_rfl
theorem k0form_p3 (t0 t1 t2 t3 t4 t5 t6 t7 t8 t9 t10 t11 t12 t13 t14 t15 : List UInt8) (c : Int) (N : Nat) (K M : Ix → Int) (bl : Ix → Nat) (B : Ix → Int) (i : Nat) (hd : Int) (w : Bool) (tl : Int) :
    isMore (evTill Tryd.prog sumsA 400 (behind Tryd.f6 0) 900 6 (headOf Tryd.f6 0) (envAt Tryd.f6.ntmps (lcE c N i hd w tl)) (XA t0 t1 t2 t3 t4 t5 t6 t7 t8 t9 t10 t11 t12 t13 t14 t15 N K M bl B ++ htE c hd w tl) ⟨[.s true, .s true, .s true, .s true, .s false, .s true, .s true, .t, .s true, .t, .s true, .s true, .s true, .t, .s true, .f, .f, .t, .f, .f, .s false, .s false, .s false], 130⟩) (moreP (headOf Tryd.f6 0) ([]) Tryd.f6.ntmps (lcE c N (i + 1) hd w tl) (htE c hd w tl) 900) =
    (OkL [(decide ((↑i : Int) < (↑N : Int)), true), (decide ((0 : Int) ≤ (↑i : Int) ∧ (↑i : Int) < (↑N : Int)), true), (((0 : Nat) + (↑i : Int).toNat).blt N, true), (((0 : Nat) + (↑i : Int).toNat).blt N, true), (decide ((↑(bl [(0 : Nat) + (↑i : Int).toNat]) : Int) > (20 : Int)), false), ((mf0 [(0 : Nat) + (↑i : Int).toNat]).blt N, true), (((0 : Nat) + bl [(0 : Nat) + (↑i : Int).toNat]).ble (bl [mf0 [(0 : Nat) + (↑i : Int).toNat]]), true), (K [(0 : Nat) + (↑i : Int).toNat] == (0 : Int), true), (!rightC (M [(0 : Nat) + (↑i : Int).toNat]), true), (hd == M [(0 : Nat) + (↑i : Int).toNat], true), (w, true), (!rightR (M [(0 : Nat) + (↑i : Int).toNat]), true), (hd != hd, false), (!w == w, false), (tl != tl, false)] ∧ headOf Tryd.f6 (0 : Nat) = headOf Tryd.f6 (0 : Nat) ∧ (c = c ∧ (0 : Nat) = (0 : Nat) ∧ (0 : Nat) = (0 : Nat) ∧ hd = hd ∧ w = w ∧ tl = tl ∧ ((0 : Nat) = (0 : Nat) ∧ N = N) ∧ (↑N : Int) = (↑N : Int) ∧ (↑(i + (1 : Nat)) : Int) = IntKind.i64.wrap ((↑i : Int) + (1 : Int))) ∧ (hd = hd ∧ w = w) ∧ tl = tl ∧ iand IntKind.i64 c (27 : Int) = iand IntKind.i64 c (27 : Int)) := by kernel_rfl

set_option maxHeartbeats 4000000 in
theorem k0form (t0 t1 t2 t3 t4 t5 t6 t7 t8 t9 t10 t11 t12 t13 t14 t15 : List UInt8) (c : Int) (N : Nat) (K M : Ix → Int) (bl : Ix → Nat) (B : Ix → Int) (i : Nat) (hd : Int) (w : Bool) (tl : Int) (hi : i < N) (hN : N ≤ 60) (hb : bl [i] ≤ 20) (hB : ∀ j, j < bl [i] → 0 ≤ B [i, j] ∧ B [i, j] < 256) (hM : -9223372036854775808 ≤ M [i] ∧ M [i] < 9223372036854775808) (hk : K [i] = 0) (hr : rightR (M [i]) = false) (next : RunsTo Tryd.prog 6 (headOf Tryd.f6 0) (envAt Tryd.f6.ntmps (lcE c N (i + 1) hd w tl)) (Sx.look (XA t0 t1 t2 t3 t4 t5 t6 t7 t8 t9 t10 t11 t12 t13 t14 t15 N K M bl B ++ htE c hd w tl)) 110 YES (Sx.look []) 900) :
    RunsTo Tryd.prog 6 (headOf Tryd.f6 0) (envAt Tryd.f6.ntmps (lcE c N i hd w tl)) (Sx.look (XA t0 t1 t2 t3 t4 t5 t6 t7 t8 t9 t10 t11 t12 t13 t14 t15 N K M bl B ++ htE c hd w tl)) 110 YES (Sx.look []) 900 := by
  have hre := right_eq hM.1 hM.2
  rw [hr] at hre
  refine bcase (c := (hd == M [(0 : Nat) + (↑i : Int).toNat])) (fun gg0 => ?_) (fun gg0 => ?_)
  · refine bcase (c := (w)) (fun gg1 => ?_) (fun gg1 => ?_)
    · refine runs_more baseA (More.of (k0form_p0 t0 t1 t2 t3 t4 t5 t6 t7 t8 t9 t10 t11 t12 t13 t14 t15 c N K M bl B i hd w tl) ⟨?oo, rfl, ?rr⟩) (by kernel_rfl) (by kernel_rfl) rfl (gtL (by decide)) (by decide) next
      case oo =>
        clear next
        refine (okc ?_ (okc ?_ (okc ?_ (okc ?_ (okc ?_ (okc ?_ (okc ?_ (okc ?_ (okc ?_ (okc gg0 (okc gg1 (okc ?_ (okc ?_ (okc ?_ (okc ?_ okn)))))))))))))))
        all_goals ((try simp (disch := omega) only [SS, nmE, mf0, List.headD_cons, Go.Sx.sum, bl_len2, hk, hr, hre]); first | done | omega | assumption | (simp (disch := omega) only [SS, nmE, mf0, List.headD_cons, Go.Sx.sum, bl_len2, hk, hr, hre] at *; first | done | omega | assumption) | (simp_all; done) | grind)
      case rr =>
        clear next
        have hw : IntKind.i64.wrap ((i : Int) + 1) = ((i + 1 : Nat) : Int) := by rw [wr64 (by omega)]; rfl
        simp (disch := omega) only [SS, nmE, mf0, List.headD_cons, Go.Sx.sum, bl_len2, hk, hr, hre, hw]
        repeat' apply And.intro
        all_goals first | trivial | rfl | omega | exact hw.symm | (intros; first | trivial | rfl | (simp_all; done)) | (simp_all; done)
    · refine runs_more baseA (More.of (k0form_p1 t0 t1 t2 t3 t4 t5 t6 t7 t8 t9 t10 t11 t12 t13 t14 t15 c N K M bl B i hd w tl) ⟨?oo, rfl, ?rr⟩) (by kernel_rfl) (by kernel_rfl) rfl (gtL (by decide)) (by decide) next
      case oo =>
        clear next
        refine (okc ?_ (okc ?_ (okc ?_ (okc ?_ (okc ?_ (okc ?_ (okc ?_ (okc ?_ (okc ?_ (okc gg0 (okc gg1 (okc ?_ (okc ?_ (okc ?_ (okc ?_ okn)))))))))))))))
        all_goals ((try simp (disch := omega) only [SS, nmE, mf0, List.headD_cons, Go.Sx.sum, bl_len2, hk, hr, hre]); first | done | omega | assumption | (simp (disch := omega) only [SS, nmE, mf0, List.headD_cons, Go.Sx.sum, bl_len2, hk, hr, hre] at *; first | done | omega | assumption) | (simp_all; done) | grind)
      case rr =>
        clear next
        have hw : IntKind.i64.wrap ((i : Int) + 1) = ((i + 1 : Nat) : Int) := by rw [wr64 (by omega)]; rfl
        simp (disch := omega) only [SS, nmE, mf0, List.headD_cons, Go.Sx.sum, bl_len2, hk, hr, hre, hw]
        repeat' apply And.intro
        all_goals first | trivial | rfl | omega | exact hw.symm | (intros; first | trivial | rfl | (simp_all; done)) | (simp_all; done)
  · refine bcase (c := (w)) (fun gg1 => ?_) (fun gg1 => ?_)
    · refine runs_more baseA (More.of (k0form_p2 t0 t1 t2 t3 t4 t5 t6 t7 t8 t9 t10 t11 t12 t13 t14 t15 c N K M bl B i hd w tl) ⟨?oo, rfl, ?rr⟩) (by kernel_rfl) (by kernel_rfl) rfl (gtL (by decide)) (by decide) next
      case oo =>
        clear next
        refine (okc ?_ (okc ?_ (okc ?_ (okc ?_ (okc ?_ (okc ?_ (okc ?_ (okc ?_ (okc ?_ (okc gg0 (okc gg1 (okc ?_ (okc ?_ (okc ?_ (okc ?_ okn)))))))))))))))
        all_goals ((try simp (disch := omega) only [SS, nmE, mf0, List.headD_cons, Go.Sx.sum, bl_len2, hk, hr, hre]); first | done | omega | assumption | (simp (disch := omega) only [SS, nmE, mf0, List.headD_cons, Go.Sx.sum, bl_len2, hk, hr, hre] at *; first | done | omega | assumption) | (simp_all; done) | grind)
      case rr =>
        clear next
        have hw : IntKind.i64.wrap ((i : Int) + 1) = ((i + 1 : Nat) : Int) := by rw [wr64 (by omega)]; rfl
        simp (disch := omega) only [SS, nmE, mf0, List.headD_cons, Go.Sx.sum, bl_len2, hk, hr, hre, hw]
        repeat' apply And.intro
        all_goals first | trivial | rfl | omega | exact hw.symm | (intros; first | trivial | rfl | (simp_all; done)) | (simp_all; done)
    · refine runs_more baseA (More.of (k0form_p3 t0 t1 t2 t3 t4 t5 t6 t7 t8 t9 t10 t11 t12 t13 t14 t15 c N K M bl B i hd w tl) ⟨?oo, rfl, ?rr⟩) (by kernel_rfl) (by kernel_rfl) rfl (gtL (by decide)) (by decide) next
      case oo =>
        clear next
        refine (okc ?_ (okc ?_ (okc ?_ (okc ?_ (okc ?_ (okc ?_ (okc ?_ (okc ?_ (okc ?_ (okc gg0 (okc gg1 (okc ?_ (okc ?_ (okc ?_ (okc ?_ okn)))))))))))))))
        all_goals ((try simp (disch := omega) only [SS, nmE, mf0, List.headD_cons, Go.Sx.sum, bl_len2, hk, hr, hre]); first | done | omega | assumption | (simp (disch := omega) only [SS, nmE, mf0, List.headD_cons, Go.Sx.sum, bl_len2, hk, hr, hre] at *; first | done | omega | assumption) | (simp_all; done) | grind)
      case rr =>
        clear next
        have hw : IntKind.i64.wrap ((i : Int) + 1) = ((i + 1 : Nat) : Int) := by rw [wr64 (by omega)]; rfl
        simp (disch := omega) only [SS, nmE, mf0, List.headD_cons, Go.Sx.sum, bl_len2, hk, hr, hre, hw]
        repeat' apply And.intro
        all_goals first | trivial | rfl | omega | exact hw.symm | (intros; first | trivial | rfl | (simp_all; done)) | (simp_all; done)

theorem k0state_p0 (t0 t1 t2 t3 t4 t5 t6 t7 t8 t9 t10 t11 t12 t13 t14 t15 : List UInt8) (c : Int) (N : Nat) (K M : Ix → Int) (bl : Ix → Nat) (B : Ix → Int) (i : Nat) (hd : Int) (w : Bool) (tl : Int) :
    isMore (evTill Tryd.prog sumsA 400 (behind Tryd.f6 0) 900 6 (headOf Tryd.f6 0) (envAt Tryd.f6.ntmps (lcE c N i hd w tl)) (XA t0 t1 t2 t3 t4 t5 t6 t7 t8 t9 t10 t11 t12 t13 t14 t15 N K M bl B ++ htE c hd w tl) ⟨[.s true, .s true, .s true, .s true, .s false, .s true, .s true, .t, .s true, .t, .s false, .s true, .s false, .s true, .t, .s false, .f, .f, .t, .f, .f, .s false, .s false, .s false], 130⟩) (moreP (headOf Tryd.f6 0) ([]) Tryd.f6.ntmps (lcE c N (i + 1) hd w tl) (htE c hd w tl) 900) =
    (OkL [(decide ((↑i : Int) < (↑N : Int)), true), (decide ((0 : Int) ≤ (↑i : Int) ∧ (↑i : Int) < (↑N : Int)), true), (((0 : Nat) + (↑i : Int).toNat).blt N, true), (((0 : Nat) + (↑i : Int).toNat).blt N, true), (decide ((↑(bl [(0 : Nat) + (↑i : Int).toNat]) : Int) > (20 : Int)), false), ((mf0 [(0 : Nat) + (↑i : Int).toNat]).blt N, true), (((0 : Nat) + bl [(0 : Nat) + (↑i : Int).toNat]).ble (bl [mf0 [(0 : Nat) + (↑i : Int).toNat]]), true), (K [(0 : Nat) + (↑i : Int).toNat] == (0 : Int), true), (!rightC (M [(0 : Nat) + (↑i : Int).toNat]), false), (w, true), (hd == M [(0 : Nat) + (↑i : Int).toNat], false), (w, true), (!rightR (M [(0 : Nat) + (↑i : Int).toNat]), false), (hd != hd, false), (!w == w, false), (tl != tl, false)] ∧ headOf Tryd.f6 (0 : Nat) = headOf Tryd.f6 (0 : Nat) ∧ (c = c ∧ (0 : Nat) = (0 : Nat) ∧ (0 : Nat) = (0 : Nat) ∧ hd = hd ∧ w = w ∧ tl = tl ∧ ((0 : Nat) = (0 : Nat) ∧ N = N) ∧ (↑N : Int) = (↑N : Int) ∧ (↑(i + (1 : Nat)) : Int) = IntKind.i64.wrap ((↑i : Int) + (1 : Int))) ∧ (hd = hd ∧ w = w) ∧ tl = tl ∧ iand IntKind.i64 c (27 : Int) = iand IntKind.i64 c (27 : Int)) := by kernel_rfl
theorem k0state_p1 (t0 t1 t2 t3 t4 t5 t6 t7 t8 t9 t10 t11 t12 t13 t14 t15 : List UInt8) (c : Int) (N : Nat) (K M : Ix → Int) (bl : Ix → Nat) (B : Ix → Int) (i : Nat) (hd : Int) (w : Bool) (tl : Int) :
    isMore (evTill Tryd.prog sumsA 400 (behind Tryd.f6 0) 900 6 (headOf Tryd.f6 0) (envAt Tryd.f6.ntmps (lcE c N i hd w tl)) (XA t0 t1 t2 t3 t4 t5 t6 t7 t8 t9 t10 t11 t12 t13 t14 t15 N K M bl B ++ htE c hd w tl) ⟨[.s true, .s true, .s true, .s true, .s false, .s true, .s true, .t, .s true, .t, .s false, .s true, .s true, .s true, .t, .s false, .f, .f, .t, .f, .f, .s false, .s false, .s false], 130⟩) (moreP (headOf Tryd.f6 0) ([]) Tryd.f6.ntmps (lcE c N (i + 1) hd w tl) (htE c hd w tl) 900) =
    (OkL [(decide ((↑i : Int) < (↑N : Int)), true), (decide ((0 : Int) ≤ (↑i : Int) ∧ (↑i : Int) < (↑N : Int)), true), (((0 : Nat) + (↑i : Int).toNat).blt N, true), (((0 : Nat) + (↑i : Int).toNat).blt N, true), (decide ((↑(bl [(0 : Nat) + (↑i : Int).toNat]) : Int) > (20 : Int)), false), ((mf0 [(0 : Nat) + (↑i : Int).toNat]).blt N, true), (((0 : Nat) + bl [(0 : Nat) + (↑i : Int).toNat]).ble (bl [mf0 [(0 : Nat) + (↑i : Int).toNat]]), true), (K [(0 : Nat) + (↑i : Int).toNat] == (0 : Int), true), (!rightC (M [(0 : Nat) + (↑i : Int).toNat]), false), (w, true), (hd == M [(0 : Nat) + (↑i : Int).toNat], true), (w, true), (!rightR (M [(0 : Nat) + (↑i : Int).toNat]), false), (hd != hd, false), (!w == w, false), (tl != tl, false)] ∧ headOf Tryd.f6 (0 : Nat) = headOf Tryd.f6 (0 : Nat) ∧ (c = c ∧ (0 : Nat) = (0 : Nat) ∧ (0 : Nat) = (0 : Nat) ∧ hd = hd ∧ w = w ∧ tl = tl ∧ ((0 : Nat) = (0 : Nat) ∧ N = N) ∧ (↑N : Int) = (↑N : Int) ∧ (↑(i + (1 : Nat)) : Int) = IntKind.i64.wrap ((↑i : Int) + (1 : Int))) ∧ (hd = hd ∧ w = w) ∧ tl = tl ∧ iand IntKind.i64 c (27 : Int) = iand IntKind.i64 c (27 : Int)) := by kernel_rfl

set_option maxHeartbeats 4000000 in
theorem k0state (t0 t1 t2 t3 t4 t5 t6 t7 t8 t9 t10 t11 t12 t13 t14 t15 : List UInt8) (c : Int) (N : Nat) (K M : Ix → Int) (bl : Ix → Nat) (B : Ix → Int) (i : Nat) (hd : Int) (w : Bool) (tl : Int) (hi : i < N) (hN : N ≤ 60) (hb : bl [i] ≤ 20) (hB : ∀ j, j < bl [i] → 0 ≤ B [i, j] ∧ B [i, j] < 256) (hM : -9223372036854775808 ≤ M [i] ∧ M [i] < 9223372036854775808) (hk : K [i] = 0) (hr : rightR (M [i]) = true) (hw2 : w = true) (next : RunsTo Tryd.prog 6 (headOf Tryd.f6 0) (envAt Tryd.f6.ntmps (lcE c N (i + 1) hd w tl)) (Sx.look (XA t0 t1 t2 t3 t4 t5 t6 t7 t8 t9 t10 t11 t12 t13 t14 t15 N K M bl B ++ htE c hd w tl)) 110 YES (Sx.look []) 900) :
    RunsTo Tryd.prog 6 (headOf Tryd.f6 0) (envAt Tryd.f6.ntmps (lcE c N i hd w tl)) (Sx.look (XA t0 t1 t2 t3 t4 t5 t6 t7 t8 t9 t10 t11 t12 t13 t14 t15 N K M bl B ++ htE c hd w tl)) 110 YES (Sx.look []) 900 := by
  have hre := right_eq hM.1 hM.2
  rw [hr] at hre
  refine bcase (c := (hd == M [(0 : Nat) + (↑i : Int).toNat])) (fun gg0 => ?_) (fun gg0 => ?_)
  · refine runs_more baseA (More.of (k0state_p0 t0 t1 t2 t3 t4 t5 t6 t7 t8 t9 t10 t11 t12 t13 t14 t15 c N K M bl B i hd w tl) ⟨?oo, rfl, ?rr⟩) (by kernel_rfl) (by kernel_rfl) rfl (gtL (by decide)) (by decide) next
    case oo =>
      clear next
      refine (okc ?_ (okc ?_ (okc ?_ (okc ?_ (okc ?_ (okc ?_ (okc ?_ (okc ?_ (okc ?_ (okc ?_ (okc gg0 (okc ?_ (okc ?_ (okc ?_ (okc ?_ (okc ?_ okn))))))))))))))))
      all_goals ((try simp (disch := omega) only [SS, nmE, mf0, List.headD_cons, Go.Sx.sum, bl_len2, hk, hr, hre, hw2]); first | done | omega | assumption | (simp (disch := omega) only [SS, nmE, mf0, List.headD_cons, Go.Sx.sum, bl_len2, hk, hr, hre, hw2] at *; first | done | omega | assumption) | (simp_all; done) | grind)
    case rr =>
      clear next
      have hw : IntKind.i64.wrap ((i : Int) + 1) = ((i + 1 : Nat) : Int) := by rw [wr64 (by omega)]; rfl
      simp (disch := omega) only [SS, nmE, mf0, List.headD_cons, Go.Sx.sum, bl_len2, hk, hr, hre, hw2, hw]
      repeat' apply And.intro
      all_goals first | trivial | rfl | omega | exact hw.symm | (intros; first | trivial | rfl | (simp_all; done)) | (simp_all; done)
  · refine runs_more baseA (More.of (k0state_p1 t0 t1 t2 t3 t4 t5 t6 t7 t8 t9 t10 t11 t12 t13 t14 t15 c N K M bl B i hd w tl) ⟨?oo, rfl, ?rr⟩) (by kernel_rfl) (by kernel_rfl) rfl (gtL (by decide)) (by decide) next
    case oo =>
      clear next
      refine (okc ?_ (okc ?_ (okc ?_ (okc ?_ (okc ?_ (okc ?_ (okc ?_ (okc ?_ (okc ?_ (okc ?_ (okc gg0 (okc ?_ (okc ?_ (okc ?_ (okc ?_ (okc ?_ okn))))))))))))))))
      all_goals ((try simp (disch := omega) only [SS, nmE, mf0, List.headD_cons, Go.Sx.sum, bl_len2, hk, hr, hre, hw2]); first | done | omega | assumption | (simp (disch := omega) only [SS, nmE, mf0, List.headD_cons, Go.Sx.sum, bl_len2, hk, hr, hre, hw2] at *; first | done | omega | assumption) | (simp_all; done) | grind)
    case rr =>
      clear next
      have hw : IntKind.i64.wrap ((i : Int) + 1) = ((i + 1 : Nat) : Int) := by rw [wr64 (by omega)]; rfl
      simp (disch := omega) only [SS, nmE, mf0, List.headD_cons, Go.Sx.sum, bl_len2, hk, hr, hre, hw2, hw]
      repeat' apply And.intro
      all_goals first | trivial | rfl | omega | exact hw.symm | (intros; first | trivial | rfl | (simp_all; done)) | (simp_all; done)

theorem k0dup_p0 (t0 t1 t2 t3 t4 t5 t6 t7 t8 t9 t10 t11 t12 t13 t14 t15 : List UInt8) (c : Int) (N : Nat) (K M : Ix → Int) (bl : Ix → Nat) (B : Ix → Int) (i : Nat) (hd : Int) (w : Bool) (tl : Int) :
    isMore (evTill Tryd.prog sumsA 400 (behind Tryd.f6 0) 900 6 (headOf Tryd.f6 0) (envAt Tryd.f6.ntmps (lcE c N i hd w tl)) (XA t0 t1 t2 t3 t4 t5 t6 t7 t8 t9 t10 t11 t12 t13 t14 t15 N K M bl B ++ htE c hd w tl) ⟨[.s true, .s true, .s true, .s true, .s false, .s true, .s true, .t, .s true, .t, .s false, .s false, .s true, .s true, .s false, .t, .s false, .f, .f, .t, .f, .f, .s false, .s false, .s false], 130⟩) (moreP (headOf Tryd.f6 0) ([]) Tryd.f6.ntmps (lcE c N (i + 1) hd w tl) (htE c hd w tl) 900) =
    (OkL [(decide ((↑i : Int) < (↑N : Int)), true), (decide ((0 : Int) ≤ (↑i : Int) ∧ (↑i : Int) < (↑N : Int)), true), (((0 : Nat) + (↑i : Int).toNat).blt N, true), (((0 : Nat) + (↑i : Int).toNat).blt N, true), (decide ((↑(bl [(0 : Nat) + (↑i : Int).toNat]) : Int) > (20 : Int)), false), ((mf0 [(0 : Nat) + (↑i : Int).toNat]).blt N, true), (((0 : Nat) + bl [(0 : Nat) + (↑i : Int).toNat]).ble (bl [mf0 [(0 : Nat) + (↑i : Int).toNat]]), true), (K [(0 : Nat) + (↑i : Int).toNat] == (0 : Int), true), (!rightC (M [(0 : Nat) + (↑i : Int).toNat]), false), (w, false), (M [(0 : Nat) + (↑i : Int).toNat] == hd, true), (hd == M [(0 : Nat) + (↑i : Int).toNat], true), (w, false), (!rightR (M [(0 : Nat) + (↑i : Int).toNat]), false), (hd != hd, false), (!w == w, false), (tl != tl, false)] ∧ headOf Tryd.f6 (0 : Nat) = headOf Tryd.f6 (0 : Nat) ∧ (c = c ∧ (0 : Nat) = (0 : Nat) ∧ (0 : Nat) = (0 : Nat) ∧ hd = hd ∧ w = w ∧ tl = tl ∧ ((0 : Nat) = (0 : Nat) ∧ N = N) ∧ (↑N : Int) = (↑N : Int) ∧ (↑(i + (1 : Nat)) : Int) = IntKind.i64.wrap ((↑i : Int) + (1 : Int))) ∧ (hd = hd ∧ w = w) ∧ tl = tl ∧ iand IntKind.i64 c (27 : Int) = iand IntKind.i64 c (27 : Int)) := by kernel_rfl

set_option maxHeartbeats 4000000 in
theorem k0dup (t0 t1 t2 t3 t4 t5 t6 t7 t8 t9 t10 t11 t12 t13 t14 t15 : List UInt8) (c : Int) (N : Nat) (K M : Ix → Int) (bl : Ix → Nat) (B : Ix → Int) (i : Nat) (hd : Int) (w : Bool) (tl : Int) (hi : i < N) (hN : N ≤ 60) (hb : bl [i] ≤ 20) (hB : ∀ j, j < bl [i] → 0 ≤ B [i, j] ∧ B [i, j] < 256) (hM : -9223372036854775808 ≤ M [i] ∧ M [i] < 9223372036854775808) (hk : K [i] = 0) (hr : rightR (M [i]) = true) (hw2 : w = false) (hd2 : M [i] = hd) (next : RunsTo Tryd.prog 6 (headOf Tryd.f6 0) (envAt Tryd.f6.ntmps (lcE c N (i + 1) hd w tl)) (Sx.look (XA t0 t1 t2 t3 t4 t5 t6 t7 t8 t9 t10 t11 t12 t13 t14 t15 N K M bl B ++ htE c hd w tl)) 110 YES (Sx.look []) 900) :
    RunsTo Tryd.prog 6 (headOf Tryd.f6 0) (envAt Tryd.f6.ntmps (lcE c N i hd w tl)) (Sx.look (XA t0 t1 t2 t3 t4 t5 t6 t7 t8 t9 t10 t11 t12 t13 t14 t15 N K M bl B ++ htE c hd w tl)) 110 YES (Sx.look []) 900 := by
  have hre := right_eq hM.1 hM.2
  rw [hr] at hre
  refine runs_more baseA (More.of (k0dup_p0 t0 t1 t2 t3 t4 t5 t6 t7 t8 t9 t10 t11 t12 t13 t14 t15 c N K M bl B i hd w tl) ⟨?oo, rfl, ?rr⟩) (by kernel_rfl) (by kernel_rfl) rfl (gtL (by decide)) (by decide) next
  case oo =>
    clear next
    refine (okc ?_ (okc ?_ (okc ?_ (okc ?_ (okc ?_ (okc ?_ (okc ?_ (okc ?_ (okc ?_ (okc ?_ (okc ?_ (okc ?_ (okc ?_ (okc ?_ (okc ?_ (okc ?_ (okc ?_ okn)))))))))))))))))
    all_goals ((try simp (disch := omega) only [SS, nmE, mf0, List.headD_cons, Go.Sx.sum, bl_len2, hk, hr, hre, hw2, hd2]); first | done | omega | assumption | (simp (disch := omega) only [SS, nmE, mf0, List.headD_cons, Go.Sx.sum, bl_len2, hk, hr, hre, hw2, hd2] at *; first | done | omega | assumption) | (simp_all; done) | grind)
  case rr =>
    clear next
    have hw : IntKind.i64.wrap ((i : Int) + 1) = ((i + 1 : Nat) : Int) := by rw [wr64 (by omega)]; rfl
    simp (disch := omega) only [SS, nmE, mf0, List.headD_cons, Go.Sx.sum, bl_len2, hk, hr, hre, hw2, hd2, hw]
    repeat' apply And.intro
    all_goals first | trivial | rfl | omega | exact hw.symm | (intros; first | trivial | rfl | (simp_all; done)) | (simp_all; done)

theorem k0ok_p0 (t0 t1 t2 t3 t4 t5 t6 t7 t8 t9 t10 t11 t12 t13 t14 t15 : List UInt8) (c : Int) (N : Nat) (K M : Ix → Int) (bl : Ix → Nat) (B : Ix → Int) (i : Nat) (hd : Int) (w : Bool) (tl : Int) :
    isMore (evTill Tryd.prog sumsA 400 (behind Tryd.f6 0) 900 6 (headOf Tryd.f6 0) (envAt Tryd.f6.ntmps (lcE c N i hd w tl)) (XA t0 t1 t2 t3 t4 t5 t6 t7 t8 t9 t10 t11 t12 t13 t14 t15 N K M bl B ++ htE c hd w tl) ⟨[.s true, .s true, .s true, .s true, .s false, .s true, .s true, .t, .s true, .t, .s false, .s false, .s false, .s false, .s false, .t, .s false, .f, .t, .t, .t, .s false, .f, .t, .s false, .f, .s false], 130⟩) (moreP (headOf Tryd.f6 0) ([]) Tryd.f6.ntmps (lcE c N (i + 1) (M [i]) true tl) (htE c (M [i]) true tl) 900) =
    (OkL [(decide ((↑i : Int) < (↑N : Int)), true), (decide ((0 : Int) ≤ (↑i : Int) ∧ (↑i : Int) < (↑N : Int)), true), (((0 : Nat) + (↑i : Int).toNat).blt N, true), (((0 : Nat) + (↑i : Int).toNat).blt N, true), (decide ((↑(bl [(0 : Nat) + (↑i : Int).toNat]) : Int) > (20 : Int)), false), ((mf0 [(0 : Nat) + (↑i : Int).toNat]).blt N, true), (((0 : Nat) + bl [(0 : Nat) + (↑i : Int).toNat]).ble (bl [mf0 [(0 : Nat) + (↑i : Int).toNat]]), true), (K [(0 : Nat) + (↑i : Int).toNat] == (0 : Int), true), (!rightC (M [(0 : Nat) + (↑i : Int).toNat]), false), (w, false), (M [(0 : Nat) + (↑i : Int).toNat] == hd, false), (hd == M [(0 : Nat) + (↑i : Int).toNat], false), (w, false), (!rightR (M [(0 : Nat) + (↑i : Int).toNat]), false), (!bytesOf (upd (upd (fun is => (0 : Int)) [(0 : Nat)] (1 : Int)) [(1 : Nat)] (IntKind.u8.wrap (M [(0 : Nat) + (↑i : Int).toNat]))) [] (0 : Nat) (2 : Nat) == bytesOf (upd (upd (fun is => (0 : Int)) [(0 : Nat)] (1 : Int)) [(1 : Nat)] (IntKind.u8.wrap (M [(0 : Nat) + (↑i : Int).toNat]))) [] (0 : Nat) (2 : Nat), false), (M [(0 : Nat) + (↑i : Int).toNat] != M [(0 : Nat) + (↑i : Int).toNat], false), (tl != tl, false)] ∧ headOf Tryd.f6 (0 : Nat) = headOf Tryd.f6 (0 : Nat) ∧ (c = c ∧ (0 : Nat) = (0 : Nat) ∧ (0 : Nat) = (0 : Nat) ∧ M [i] = M [(0 : Nat) + (↑i : Int).toNat] ∧ true = true ∧ tl = tl ∧ ((0 : Nat) = (0 : Nat) ∧ N = N) ∧ (↑N : Int) = (↑N : Int) ∧ (↑(i + (1 : Nat)) : Int) = IntKind.i64.wrap ((↑i : Int) + (1 : Int))) ∧ (M [i] = M [(0 : Nat) + (↑i : Int).toNat] ∧ true = true) ∧ tl = tl ∧ iand IntKind.i64 c (27 : Int) = iand IntKind.i64 c (27 : Int)) := by kernel_rfl

set_option maxHeartbeats 4000000 in
theorem k0ok (t0 t1 t2 t3 t4 t5 t6 t7 t8 t9 t10 t11 t12 t13 t14 t15 : List UInt8) (c : Int) (N : Nat) (K M : Ix → Int) (bl : Ix → Nat) (B : Ix → Int) (i : Nat) (hd : Int) (w : Bool) (tl : Int) (hi : i < N) (hN : N ≤ 60) (hb : bl [i] ≤ 20) (hB : ∀ j, j < bl [i] → 0 ≤ B [i, j] ∧ B [i, j] < 256) (hM : -9223372036854775808 ≤ M [i] ∧ M [i] < 9223372036854775808) (hk : K [i] = 0) (hr : rightR (M [i]) = true) (hw2 : w = false) (hd2 : M [i] ≠ hd) (next : RunsTo Tryd.prog 6 (headOf Tryd.f6 0) (envAt Tryd.f6.ntmps (lcE c N (i + 1) (M [i]) true tl)) (Sx.look (XA t0 t1 t2 t3 t4 t5 t6 t7 t8 t9 t10 t11 t12 t13 t14 t15 N K M bl B ++ htE c (M [i]) true tl)) 110 YES (Sx.look []) 900) :
    RunsTo Tryd.prog 6 (headOf Tryd.f6 0) (envAt Tryd.f6.ntmps (lcE c N i hd w tl)) (Sx.look (XA t0 t1 t2 t3 t4 t5 t6 t7 t8 t9 t10 t11 t12 t13 t14 t15 N K M bl B ++ htE c hd w tl)) 110 YES (Sx.look []) 900 := by
  have hre := right_eq hM.1 hM.2
  rw [hr] at hre
  refine runs_more baseA (More.of (k0ok_p0 t0 t1 t2 t3 t4 t5 t6 t7 t8 t9 t10 t11 t12 t13 t14 t15 c N K M bl B i hd w tl) ⟨?oo, rfl, ?rr⟩) (by kernel_rfl) (by kernel_rfl) rfl (gtL (by decide)) (by decide) next
  case oo =>
    clear next
    refine (okc ?_ (okc ?_ (okc ?_ (okc ?_ (okc ?_ (okc ?_ (okc ?_ (okc ?_ (okc ?_ (okc ?_ (okc ?_ (okc ?_ (okc ?_ (okc ?_ (okc ?_ (okc ?_ (okc ?_ okn)))))))))))))))))
    all_goals ((try simp (disch := omega) only [SS, nmE, mf0, List.headD_cons, Go.Sx.sum, bl_len2, hk, hr, hre, hw2]); first | done | omega | assumption | (simp (disch := omega) only [SS, nmE, mf0, List.headD_cons, Go.Sx.sum, bl_len2, hk, hr, hre, hw2] at *; first | done | omega | assumption) | (simp_all; done) | grind)
  case rr =>
    clear next
    have hw : IntKind.i64.wrap ((i : Int) + 1) = ((i + 1 : Nat) : Int) := by rw [wr64 (by omega)]; rfl
    simp (disch := omega) only [SS, nmE, mf0, List.headD_cons, Go.Sx.sum, bl_len2, hk, hr, hre, hw2, hw]
    repeat' apply And.intro
    all_goals first | trivial | rfl | omega | exact hw.symm | (intros; first | trivial | rfl | (simp_all; done)) | (simp_all; done)

theorem kx_p0 (t0 t1 t2 t3 t4 t5 t6 t7 t8 t9 t10 t11 t12 t13 t14 t15 : List UInt8) (c : Int) (N : Nat) (K M : Ix → Int) (bl : Ix → Nat) (B : Ix → Int) (i : Nat) (hd : Int) (w : Bool) (tl : Int) :
    isMore (evTill Tryd.prog sumsA 400 (behind Tryd.f6 0) 900 6 (headOf Tryd.f6 0) (envAt Tryd.f6.ntmps (lcE c N i hd w tl)) (XA t0 t1 t2 t3 t4 t5 t6 t7 t8 t9 t10 t11 t12 t13 t14 t15 N K M bl B ++ htE c hd w tl) ⟨[.s true, .s true, .s true, .s true, .s false, .s true, .s true, .t, .s false, .s false, .s false, .s false, .s false, .s false], 130⟩) (moreP (headOf Tryd.f6 0) ([]) Tryd.f6.ntmps (lcE c N (i + 1) hd w tl) (htE c hd w tl) 900) =
    (OkL [(decide ((↑i : Int) < (↑N : Int)), true), (decide ((0 : Int) ≤ (↑i : Int) ∧ (↑i : Int) < (↑N : Int)), true), (((0 : Nat) + (↑i : Int).toNat).blt N, true), (((0 : Nat) + (↑i : Int).toNat).blt N, true), (decide ((↑(bl [(0 : Nat) + (↑i : Int).toNat]) : Int) > (20 : Int)), false), ((mf0 [(0 : Nat) + (↑i : Int).toNat]).blt N, true), (((0 : Nat) + bl [(0 : Nat) + (↑i : Int).toNat]).ble (bl [mf0 [(0 : Nat) + (↑i : Int).toNat]]), true), (K [(0 : Nat) + (↑i : Int).toNat] == (0 : Int), false), (K [(0 : Nat) + (↑i : Int).toNat] == (1 : Int), false), (K [(0 : Nat) + (↑i : Int).toNat] == (2 : Int), false), (hd != hd, false), (!w == w, false), (tl != tl, false)] ∧ headOf Tryd.f6 (0 : Nat) = headOf Tryd.f6 (0 : Nat) ∧ (c = c ∧ (0 : Nat) = (0 : Nat) ∧ (0 : Nat) = (0 : Nat) ∧ hd = hd ∧ w = w ∧ tl = tl ∧ ((0 : Nat) = (0 : Nat) ∧ N = N) ∧ (↑N : Int) = (↑N : Int) ∧ (↑(i + (1 : Nat)) : Int) = IntKind.i64.wrap ((↑i : Int) + (1 : Int))) ∧ (hd = hd ∧ w = w) ∧ tl = tl ∧ iand IntKind.i64 c (27 : Int) = iand IntKind.i64 c (27 : Int)) := by kernel_rfl

set_option maxHeartbeats 4000000 in
theorem kx (t0 t1 t2 t3 t4 t5 t6 t7 t8 t9 t10 t11 t12 t13 t14 t15 : List UInt8) (c : Int) (N : Nat) (K M : Ix → Int) (bl : Ix → Nat) (B : Ix → Int) (i : Nat) (hd : Int) (w : Bool) (tl : Int) (hi : i < N) (hN : N ≤ 60) (hb : bl [i] ≤ 20) (hB : ∀ j, j < bl [i] → 0 ≤ B [i, j] ∧ B [i, j] < 256) (hM : -9223372036854775808 ≤ M [i] ∧ M [i] < 9223372036854775808) (hk : K [i] ≠ 0 ∧ K [i] ≠ 1 ∧ K [i] ≠ 2) (next : RunsTo Tryd.prog 6 (headOf Tryd.f6 0) (envAt Tryd.f6.ntmps (lcE c N (i + 1) hd w tl)) (Sx.look (XA t0 t1 t2 t3 t4 t5 t6 t7 t8 t9 t10 t11 t12 t13 t14 t15 N K M bl B ++ htE c hd w tl)) 110 YES (Sx.look []) 900) :
    RunsTo Tryd.prog 6 (headOf Tryd.f6 0) (envAt Tryd.f6.ntmps (lcE c N i hd w tl)) (Sx.look (XA t0 t1 t2 t3 t4 t5 t6 t7 t8 t9 t10 t11 t12 t13 t14 t15 N K M bl B ++ htE c hd w tl)) 110 YES (Sx.look []) 900 := by
  refine runs_more baseA (More.of (kx_p0 t0 t1 t2 t3 t4 t5 t6 t7 t8 t9 t10 t11 t12 t13 t14 t15 c N K M bl B i hd w tl) ⟨?oo, rfl, ?rr⟩) (by kernel_rfl) (by kernel_rfl) rfl (gtL (by decide)) (by decide) next
  case oo =>
    clear next
    refine (okc ?_ (okc ?_ (okc ?_ (okc ?_ (okc ?_ (okc ?_ (okc ?_ (okc ?_ (okc ?_ (okc ?_ (okc ?_ (okc ?_ (okc ?_ okn)))))))))))))
    all_goals ((try simp (disch := omega) only [SS, nmE, mf0, List.headD_cons, Go.Sx.sum, bl_len2]); first | done | omega | assumption | (simp (disch := omega) only [SS, nmE, mf0, List.headD_cons, Go.Sx.sum, bl_len2] at *; first | done | omega | assumption) | (simp_all; done) | grind)
  case rr =>
    clear next
    have hw : IntKind.i64.wrap ((i : Int) + 1) = ((i + 1 : Nat) : Int) := by rw [wr64 (by omega)]; rfl
    simp (disch := omega) only [SS, nmE, mf0, List.headD_cons, Go.Sx.sum, bl_len2, hw]
    repeat' apply And.intro
    all_goals first | trivial | rfl | omega | exact hw.symm | (intros; first | trivial | rfl | (simp_all; done)) | (simp_all; done)

theorem k1Short_p0 (t0 t1 t2 t3 t4 t5 t6 t7 t8 t9 t10 t11 t12 t13 t14 t15 : List UInt8) (c : Int) (N : Nat) (K M : Ix → Int) (bl : Ix → Nat) (B : Ix → Int) (i : Nat) (hd : Int) (w : Bool) (tl : Int) :
    isMore (evTill Tryd.prog sumsA 400 (behind Tryd.f6 0) 900 6 (headOf Tryd.f6 0) (envAt Tryd.f6.ntmps (lcE c N i hd w tl)) (XA t0 t1 t2 t3 t4 t5 t6 t7 t8 t9 t10 t11 t12 t13 t14 t15 N K M bl B ++ htE c hd w tl) ⟨[.s true, .s true, .s true, .s true, .s false, .s true, .s true, .t, .s false, .s true, .s false, .s true, .t, .s false, .s false, .s false, .s false, .s false], 130⟩) (moreP (headOf Tryd.f6 0) ([]) Tryd.f6.ntmps (lcE c N (i + 1) hd w tl) (htE c hd w tl) 900) =
    (OkL [(decide ((↑i : Int) < (↑N : Int)), true), (decide ((0 : Int) ≤ (↑i : Int) ∧ (↑i : Int) < (↑N : Int)), true), (((0 : Nat) + (↑i : Int).toNat).blt N, true), (((0 : Nat) + (↑i : Int).toNat).blt N, true), (decide ((↑(bl [(0 : Nat) + (↑i : Int).toNat]) : Int) > (20 : Int)), false), ((mf0 [(0 : Nat) + (↑i : Int).toNat]).blt N, true), (((0 : Nat) + bl [(0 : Nat) + (↑i : Int).toNat]).ble (bl [mf0 [(0 : Nat) + (↑i : Int).toNat]]), true), (K [(0 : Nat) + (↑i : Int).toNat] == (0 : Int), false), (K [(0 : Nat) + (↑i : Int).toNat] == (1 : Int), true), (rpB (bytesOf B [mf0 [(0 : Nat) + (↑i : Int).toNat]] (0 : Nat) (bl [(0 : Nat) + (↑i : Int).toNat])) == (0 : Int), false), (decide ((↑(bl [(0 : Nat) + (↑i : Int).toNat]) : Int) < (2 : Int)), true), (numOf (28 : Nat) != rpB (bytesOf B [mf0 [(0 : Nat) + (↑i : Int).toNat]] (0 : Nat) (bl [(0 : Nat) + (↑i : Int).toNat])), false), (rpB (bytesOf B [mf0 [(0 : Nat) + (↑i : Int).toNat]] (0 : Nat) (bl [(0 : Nat) + (↑i : Int).toNat])) == (0 : Int), false), (hd != hd, false), (!w == w, false), (tl != tl, false)] ∧ headOf Tryd.f6 (0 : Nat) = headOf Tryd.f6 (0 : Nat) ∧ (c = c ∧ (0 : Nat) = (0 : Nat) ∧ (0 : Nat) = (0 : Nat) ∧ hd = hd ∧ w = w ∧ tl = tl ∧ ((0 : Nat) = (0 : Nat) ∧ N = N) ∧ (↑N : Int) = (↑N : Int) ∧ (↑(i + (1 : Nat)) : Int) = IntKind.i64.wrap ((↑i : Int) + (1 : Int))) ∧ (hd = hd ∧ w = w) ∧ tl = tl ∧ iand IntKind.i64 c (27 : Int) = iand IntKind.i64 c (27 : Int)) := by kernel_rfl

set_option maxHeartbeats 4000000 in
theorem k1Short (t0 t1 t2 t3 t4 t5 t6 t7 t8 t9 t10 t11 t12 t13 t14 t15 : List UInt8) (c : Int) (N : Nat) (K M : Ix → Int) (bl : Ix → Nat) (B : Ix → Int) (i : Nat) (hd : Int) (w : Bool) (tl : Int) (hi : i < N) (hN : N ≤ 60) (hb : bl [i] ≤ 20) (hB : ∀ j, j < bl [i] → 0 ≤ B [i, j] ∧ B [i, j] < 256) (hM : -9223372036854775808 ≤ M [i] ∧ M [i] < 9223372036854775808) (hk : K [i] = 1) (hl : bl [i] < 2) (next : RunsTo Tryd.prog 6 (headOf Tryd.f6 0) (envAt Tryd.f6.ntmps (lcE c N (i + 1) hd w tl)) (Sx.look (XA t0 t1 t2 t3 t4 t5 t6 t7 t8 t9 t10 t11 t12 t13 t14 t15 N K M bl B ++ htE c hd w tl)) 110 YES (Sx.look []) 900) :
    RunsTo Tryd.prog 6 (headOf Tryd.f6 0) (envAt Tryd.f6.ntmps (lcE c N i hd w tl)) (Sx.look (XA t0 t1 t2 t3 t4 t5 t6 t7 t8 t9 t10 t11 t12 t13 t14 t15 N K M bl B ++ htE c hd w tl)) 110 YES (Sx.look []) 900 := by
  obtain ⟨r1, r2, r3⟩ := rp_short (s := (bytesOf B [i] 0 (bl [i]))) (by rw [bl_len2]; exact hl)
  refine runs_more baseA (More.of (k1Short_p0 t0 t1 t2 t3 t4 t5 t6 t7 t8 t9 t10 t11 t12 t13 t14 t15 c N K M bl B i hd w tl) ⟨?oo, rfl, ?rr⟩) (by kernel_rfl) (by kernel_rfl) rfl (gtL (by decide)) (by decide) next
  case oo =>
    clear next
    refine (okc ?_ (okc ?_ (okc ?_ (okc ?_ (okc ?_ (okc ?_ (okc ?_ (okc ?_ (okc ?_ (okc ?_ (okc ?_ (okc ?_ (okc ?_ (okc ?_ (okc ?_ (okc ?_ okn))))))))))))))))
    all_goals ((try simp (disch := omega) only [SS, nmE, mf0, List.headD_cons, Go.Sx.sum, bl_len2, hk, r1, r2, r3]); first | done | omega | assumption | (simp (disch := omega) only [SS, nmE, mf0, List.headD_cons, Go.Sx.sum, bl_len2, hk, r1, r2, r3] at *; first | done | omega | assumption) | (simp_all; done) | grind)
  case rr =>
    clear next
    have hw : IntKind.i64.wrap ((i : Int) + 1) = ((i + 1 : Nat) : Int) := by rw [wr64 (by omega)]; rfl
    simp (disch := omega) only [SS, nmE, mf0, List.headD_cons, Go.Sx.sum, bl_len2, hk, r1, r2, r3, hw]
    repeat' apply And.intro
    all_goals first | trivial | rfl | omega | exact hw.symm | (intros; first | trivial | rfl | (simp_all; done)) | (simp_all; done)

theorem k2Short_p0 (t0 t1 t2 t3 t4 t5 t6 t7 t8 t9 t10 t11 t12 t13 t14 t15 : List UInt8) (c : Int) (N : Nat) (K M : Ix → Int) (bl : Ix → Nat) (B : Ix → Int) (i : Nat) (hd : Int) (w : Bool) (tl : Int) :
    isMore (evTill Tryd.prog sumsA 400 (behind Tryd.f6 0) 900 6 (headOf Tryd.f6 0) (envAt Tryd.f6.ntmps (lcE c N i hd w tl)) (XA t0 t1 t2 t3 t4 t5 t6 t7 t8 t9 t10 t11 t12 t13 t14 t15 N K M bl B ++ htE c hd w tl) ⟨[.s true, .s true, .s true, .s true, .s false, .s true, .s true, .t, .s false, .s false, .s true, .s false, .s true, .t, .s false, .s false, .s false, .s true, .f, .s false, .s false, .s false], 130⟩) (moreP (headOf Tryd.f6 0) ([]) Tryd.f6.ntmps (lcE c N (i + 1) hd w tl) (htE c hd w tl) 900) =
    (OkL [(decide ((↑i : Int) < (↑N : Int)), true), (decide ((0 : Int) ≤ (↑i : Int) ∧ (↑i : Int) < (↑N : Int)), true), (((0 : Nat) + (↑i : Int).toNat).blt N, true), (((0 : Nat) + (↑i : Int).toNat).blt N, true), (decide ((↑(bl [(0 : Nat) + (↑i : Int).toNat]) : Int) > (20 : Int)), false), ((mf0 [(0 : Nat) + (↑i : Int).toNat]).blt N, true), (((0 : Nat) + bl [(0 : Nat) + (↑i : Int).toNat]).ble (bl [mf0 [(0 : Nat) + (↑i : Int).toNat]]), true), (K [(0 : Nat) + (↑i : Int).toNat] == (0 : Int), false), (K [(0 : Nat) + (↑i : Int).toNat] == (1 : Int), false), (K [(0 : Nat) + (↑i : Int).toNat] == (2 : Int), true), (rpB (bytesOf B [mf0 [(0 : Nat) + (↑i : Int).toNat]] (0 : Nat) (bl [(0 : Nat) + (↑i : Int).toNat])) == (0 : Int), false), (decide ((↑(bl [(0 : Nat) + (↑i : Int).toNat]) : Int) < (2 : Int)), true), (rpB (bytesOf B [mf0 [(0 : Nat) + (↑i : Int).toNat]] (0 : Nat) (bl [(0 : Nat) + (↑i : Int).toNat])) == (0 : Int), false), (numOf (28 : Nat) != rpB (bytesOf B [mf0 [(0 : Nat) + (↑i : Int).toNat]] (0 : Nat) (bl [(0 : Nat) + (↑i : Int).toNat])), false), (rpB (bytesOf B [mf0 [(0 : Nat) + (↑i : Int).toNat]] (0 : Nat) (bl [(0 : Nat) + (↑i : Int).toNat])) == (0 : Int), false), (rpB (bytesOf B [mf0 [(0 : Nat) + (↑i : Int).toNat]] (0 : Nat) (bl [(0 : Nat) + (↑i : Int).toNat])) != (0 : Int), true), (hd != hd, false), (!w == w, false), (tl != tl, false)] ∧ headOf Tryd.f6 (0 : Nat) = headOf Tryd.f6 (0 : Nat) ∧ (c = c ∧ (0 : Nat) = (0 : Nat) ∧ (0 : Nat) = (0 : Nat) ∧ hd = hd ∧ w = w ∧ tl = tl ∧ ((0 : Nat) = (0 : Nat) ∧ N = N) ∧ (↑N : Int) = (↑N : Int) ∧ (↑(i + (1 : Nat)) : Int) = IntKind.i64.wrap ((↑i : Int) + (1 : Int))) ∧ (hd = hd ∧ w = w) ∧ tl = tl ∧ iand IntKind.i64 c (27 : Int) = iand IntKind.i64 c (27 : Int)) := by kernel_rfl

set_option maxHeartbeats 4000000 in
theorem k2Short (t0 t1 t2 t3 t4 t5 t6 t7 t8 t9 t10 t11 t12 t13 t14 t15 : List UInt8) (c : Int) (N : Nat) (K M : Ix → Int) (bl : Ix → Nat) (B : Ix → Int) (i : Nat) (hd : Int) (w : Bool) (tl : Int) (hi : i < N) (hN : N ≤ 60) (hb : bl [i] ≤ 20) (hB : ∀ j, j < bl [i] → 0 ≤ B [i, j] ∧ B [i, j] < 256) (hM : -9223372036854775808 ≤ M [i] ∧ M [i] < 9223372036854775808) (hk : K [i] = 2) (hl : bl [i] < 2) (next : RunsTo Tryd.prog 6 (headOf Tryd.f6 0) (envAt Tryd.f6.ntmps (lcE c N (i + 1) hd w tl)) (Sx.look (XA t0 t1 t2 t3 t4 t5 t6 t7 t8 t9 t10 t11 t12 t13 t14 t15 N K M bl B ++ htE c hd w tl)) 110 YES (Sx.look []) 900) :
    RunsTo Tryd.prog 6 (headOf Tryd.f6 0) (envAt Tryd.f6.ntmps (lcE c N i hd w tl)) (Sx.look (XA t0 t1 t2 t3 t4 t5 t6 t7 t8 t9 t10 t11 t12 t13 t14 t15 N K M bl B ++ htE c hd w tl)) 110 YES (Sx.look []) 900 := by
  obtain ⟨r1, r2, r3⟩ := rp_short (s := (bytesOf B [i] 0 (bl [i]))) (by rw [bl_len2]; exact hl)
  refine runs_more baseA (More.of (k2Short_p0 t0 t1 t2 t3 t4 t5 t6 t7 t8 t9 t10 t11 t12 t13 t14 t15 c N K M bl B i hd w tl) ⟨?oo, rfl, ?rr⟩) (by kernel_rfl) (by kernel_rfl) rfl (gtL (by decide)) (by decide) next
  case oo =>
    clear next
    refine (okc ?_ (okc ?_ (okc ?_ (okc ?_ (okc ?_ (okc ?_ (okc ?_ (okc ?_ (okc ?_ (okc ?_ (okc ?_ (okc ?_ (okc ?_ (okc ?_ (okc ?_ (okc ?_ (okc ?_ (okc ?_ (okc ?_ okn)))))))))))))))))))
    all_goals ((try simp (disch := omega) only [SS, nmE, mf0, List.headD_cons, Go.Sx.sum, bl_len2, hk, r1, r2, r3]); first | done | omega | assumption | (simp (disch := omega) only [SS, nmE, mf0, List.headD_cons, Go.Sx.sum, bl_len2, hk, r1, r2, r3] at *; first | done | omega | assumption) | (simp_all; done) | grind)
  case rr =>
    clear next
    have hw : IntKind.i64.wrap ((i : Int) + 1) = ((i + 1 : Nat) : Int) := by rw [wr64 (by omega)]; rfl
    simp (disch := omega) only [SS, nmE, mf0, List.headD_cons, Go.Sx.sum, bl_len2, hk, r1, r2, r3, hw]
    repeat' apply And.intro
    all_goals first | trivial | rfl | omega | exact hw.symm | (intros; first | trivial | rfl | (simp_all; done)) | (simp_all; done)

theorem k1More_p0 (t0 t1 t2 t3 t4 t5 t6 t7 t8 t9 t10 t11 t12 t13 t14 t15 : List UInt8) (c : Int) (N : Nat) (K M : Ix → Int) (bl : Ix → Nat) (B : Ix → Int) (i : Nat) (hd : Int) (w : Bool) (tl : Int) :
    isMore (evTill Tryd.prog sumsA 400 (behind Tryd.f6 0) 900 6 (headOf Tryd.f6 0) (envAt Tryd.f6.ntmps (lcE c N i hd w tl)) (XA t0 t1 t2 t3 t4 t5 t6 t7 t8 t9 t10 t11 t12 t13 t14 t15 N K M bl B ++ htE c hd w tl) ⟨[.s true, .s true, .s true, .s true, .s false, .s true, .s true, .t, .s false, .s true, .s false, .s false, .s true, .t, .s false, .s false, .s false, .s false, .s false], 130⟩) (moreP (headOf Tryd.f6 0) ([]) Tryd.f6.ntmps (lcE c N (i + 1) hd w tl) (htE c hd w tl) 900) =
    (OkL [(decide ((↑i : Int) < (↑N : Int)), true), (decide ((0 : Int) ≤ (↑i : Int) ∧ (↑i : Int) < (↑N : Int)), true), (((0 : Nat) + (↑i : Int).toNat).blt N, true), (((0 : Nat) + (↑i : Int).toNat).blt N, true), (decide ((↑(bl [(0 : Nat) + (↑i : Int).toNat]) : Int) > (20 : Int)), false), ((mf0 [(0 : Nat) + (↑i : Int).toNat]).blt N, true), (((0 : Nat) + bl [(0 : Nat) + (↑i : Int).toNat]).ble (bl [mf0 [(0 : Nat) + (↑i : Int).toNat]]), true), (K [(0 : Nat) + (↑i : Int).toNat] == (0 : Int), false), (K [(0 : Nat) + (↑i : Int).toNat] == (1 : Int), true), (rpB (bytesOf B [mf0 [(0 : Nat) + (↑i : Int).toNat]] (0 : Nat) (bl [(0 : Nat) + (↑i : Int).toNat])) == (0 : Int), false), (decide ((↑(bl [(0 : Nat) + (↑i : Int).toNat]) : Int) < (2 : Int)), false), (decide ((↑(bl [(0 : Nat) + (↑i : Int).toNat]) : Int) > (2 : Int)), true), (numOf (29 : Nat) != rpB (bytesOf B [mf0 [(0 : Nat) + (↑i : Int).toNat]] (0 : Nat) (bl [(0 : Nat) + (↑i : Int).toNat])), false), (rpB (bytesOf B [mf0 [(0 : Nat) + (↑i : Int).toNat]] (0 : Nat) (bl [(0 : Nat) + (↑i : Int).toNat])) == (0 : Int), false), (hd != hd, false), (!w == w, false), (tl != tl, false)] ∧ headOf Tryd.f6 (0 : Nat) = headOf Tryd.f6 (0 : Nat) ∧ (c = c ∧ (0 : Nat) = (0 : Nat) ∧ (0 : Nat) = (0 : Nat) ∧ hd = hd ∧ w = w ∧ tl = tl ∧ ((0 : Nat) = (0 : Nat) ∧ N = N) ∧ (↑N : Int) = (↑N : Int) ∧ (↑(i + (1 : Nat)) : Int) = IntKind.i64.wrap ((↑i : Int) + (1 : Int))) ∧ (hd = hd ∧ w = w) ∧ tl = tl ∧ iand IntKind.i64 c (27 : Int) = iand IntKind.i64 c (27 : Int)) := by kernel_rfl

set_option maxHeartbeats 4000000 in
theorem k1More (t0 t1 t2 t3 t4 t5 t6 t7 t8 t9 t10 t11 t12 t13 t14 t15 : List UInt8) (c : Int) (N : Nat) (K M : Ix → Int) (bl : Ix → Nat) (B : Ix → Int) (i : Nat) (hd : Int) (w : Bool) (tl : Int) (hi : i < N) (hN : N ≤ 60) (hb : bl [i] ≤ 20) (hB : ∀ j, j < bl [i] → 0 ≤ B [i, j] ∧ B [i, j] < 256) (hM : -9223372036854775808 ≤ M [i] ∧ M [i] < 9223372036854775808) (hk : K [i] = 1) (hl : 2 < bl [i]) (next : RunsTo Tryd.prog 6 (headOf Tryd.f6 0) (envAt Tryd.f6.ntmps (lcE c N (i + 1) hd w tl)) (Sx.look (XA t0 t1 t2 t3 t4 t5 t6 t7 t8 t9 t10 t11 t12 t13 t14 t15 N K M bl B ++ htE c hd w tl)) 110 YES (Sx.look []) 900) :
    RunsTo Tryd.prog 6 (headOf Tryd.f6 0) (envAt Tryd.f6.ntmps (lcE c N i hd w tl)) (Sx.look (XA t0 t1 t2 t3 t4 t5 t6 t7 t8 t9 t10 t11 t12 t13 t14 t15 N K M bl B ++ htE c hd w tl)) 110 YES (Sx.look []) 900 := by
  obtain ⟨r1, r2, r3⟩ := rp_more (s := (bytesOf B [i] 0 (bl [i]))) (by rw [bl_len2]; exact hl)
  refine runs_more baseA (More.of (k1More_p0 t0 t1 t2 t3 t4 t5 t6 t7 t8 t9 t10 t11 t12 t13 t14 t15 c N K M bl B i hd w tl) ⟨?oo, rfl, ?rr⟩) (by kernel_rfl) (by kernel_rfl) rfl (gtL (by decide)) (by decide) next
  case oo =>
    clear next
    refine (okc ?_ (okc ?_ (okc ?_ (okc ?_ (okc ?_ (okc ?_ (okc ?_ (okc ?_ (okc ?_ (okc ?_ (okc ?_ (okc ?_ (okc ?_ (okc ?_ (okc ?_ (okc ?_ (okc ?_ okn)))))))))))))))))
    all_goals ((try simp (disch := omega) only [SS, nmE, mf0, List.headD_cons, Go.Sx.sum, bl_len2, hk, r1, r2, r3]); first | done | omega | assumption | (simp (disch := omega) only [SS, nmE, mf0, List.headD_cons, Go.Sx.sum, bl_len2, hk, r1, r2, r3] at *; first | done | omega | assumption) | (simp_all; done) | grind)
  case rr =>
    clear next
    have hw : IntKind.i64.wrap ((i : Int) + 1) = ((i + 1 : Nat) : Int) := by rw [wr64 (by omega)]; rfl
    simp (disch := omega) only [SS, nmE, mf0, List.headD_cons, Go.Sx.sum, bl_len2, hk, r1, r2, r3, hw]
    repeat' apply And.intro
    all_goals first | trivial | rfl | omega | exact hw.symm | (intros; first | trivial | rfl | (simp_all; done)) | (simp_all; done)

theorem k2More_p0 (t0 t1 t2 t3 t4 t5 t6 t7 t8 t9 t10 t11 t12 t13 t14 t15 : List UInt8) (c : Int) (N : Nat) (K M : Ix → Int) (bl : Ix → Nat) (B : Ix → Int) (i : Nat) (hd : Int) (w : Bool) (tl : Int) :
    isMore (evTill Tryd.prog sumsA 400 (behind Tryd.f6 0) 900 6 (headOf Tryd.f6 0) (envAt Tryd.f6.ntmps (lcE c N i hd w tl)) (XA t0 t1 t2 t3 t4 t5 t6 t7 t8 t9 t10 t11 t12 t13 t14 t15 N K M bl B ++ htE c hd w tl) ⟨[.s true, .s true, .s true, .s true, .s false, .s true, .s true, .t, .s false, .s false, .s true, .s false, .s false, .s true, .t, .s false, .s false, .s false, .s true, .f, .s false, .s false, .s false], 130⟩) (moreP (headOf Tryd.f6 0) ([]) Tryd.f6.ntmps (lcE c N (i + 1) hd w tl) (htE c hd w tl) 900) =
    (OkL [(decide ((↑i : Int) < (↑N : Int)), true), (decide ((0 : Int) ≤ (↑i : Int) ∧ (↑i : Int) < (↑N : Int)), true), (((0 : Nat) + (↑i : Int).toNat).blt N, true), (((0 : Nat) + (↑i : Int).toNat).blt N, true), (decide ((↑(bl [(0 : Nat) + (↑i : Int).toNat]) : Int) > (20 : Int)), false), ((mf0 [(0 : Nat) + (↑i : Int).toNat]).blt N, true), (((0 : Nat) + bl [(0 : Nat) + (↑i : Int).toNat]).ble (bl [mf0 [(0 : Nat) + (↑i : Int).toNat]]), true), (K [(0 : Nat) + (↑i : Int).toNat] == (0 : Int), false), (K [(0 : Nat) + (↑i : Int).toNat] == (1 : Int), false), (K [(0 : Nat) + (↑i : Int).toNat] == (2 : Int), true), (rpB (bytesOf B [mf0 [(0 : Nat) + (↑i : Int).toNat]] (0 : Nat) (bl [(0 : Nat) + (↑i : Int).toNat])) == (0 : Int), false), (decide ((↑(bl [(0 : Nat) + (↑i : Int).toNat]) : Int) < (2 : Int)), false), (decide ((↑(bl [(0 : Nat) + (↑i : Int).toNat]) : Int) > (2 : Int)), true), (rpB (bytesOf B [mf0 [(0 : Nat) + (↑i : Int).toNat]] (0 : Nat) (bl [(0 : Nat) + (↑i : Int).toNat])) == (0 : Int), false), (numOf (29 : Nat) != rpB (bytesOf B [mf0 [(0 : Nat) + (↑i : Int).toNat]] (0 : Nat) (bl [(0 : Nat) + (↑i : Int).toNat])), false), (rpB (bytesOf B [mf0 [(0 : Nat) + (↑i : Int).toNat]] (0 : Nat) (bl [(0 : Nat) + (↑i : Int).toNat])) == (0 : Int), false), (rpB (bytesOf B [mf0 [(0 : Nat) + (↑i : Int).toNat]] (0 : Nat) (bl [(0 : Nat) + (↑i : Int).toNat])) != (0 : Int), true), (hd != hd, false), (!w == w, false), (tl != tl, false)] ∧ headOf Tryd.f6 (0 : Nat) = headOf Tryd.f6 (0 : Nat) ∧ (c = c ∧ (0 : Nat) = (0 : Nat) ∧ (0 : Nat) = (0 : Nat) ∧ hd = hd ∧ w = w ∧ tl = tl ∧ ((0 : Nat) = (0 : Nat) ∧ N = N) ∧ (↑N : Int) = (↑N : Int) ∧ (↑(i + (1 : Nat)) : Int) = IntKind.i64.wrap ((↑i : Int) + (1 : Int))) ∧ (hd = hd ∧ w = w) ∧ tl = tl ∧ iand IntKind.i64 c (27 : Int) = iand IntKind.i64 c (27 : Int)) := by kernel_rfl

set_option maxHeartbeats 4000000 in
theorem k2More (t0 t1 t2 t3 t4 t5 t6 t7 t8 t9 t10 t11 t12 t13 t14 t15 : List UInt8) (c : Int) (N : Nat) (K M : Ix → Int) (bl : Ix → Nat) (B : Ix → Int) (i : Nat) (hd : Int) (w : Bool) (tl : Int) (hi : i < N) (hN : N ≤ 60) (hb : bl [i] ≤ 20) (hB : ∀ j, j < bl [i] → 0 ≤ B [i, j] ∧ B [i, j] < 256) (hM : -9223372036854775808 ≤ M [i] ∧ M [i] < 9223372036854775808) (hk : K [i] = 2) (hl : 2 < bl [i]) (next : RunsTo Tryd.prog 6 (headOf Tryd.f6 0) (envAt Tryd.f6.ntmps (lcE c N (i + 1) hd w tl)) (Sx.look (XA t0 t1 t2 t3 t4 t5 t6 t7 t8 t9 t10 t11 t12 t13 t14 t15 N K M bl B ++ htE c hd w tl)) 110 YES (Sx.look []) 900) :
    RunsTo Tryd.prog 6 (headOf Tryd.f6 0) (envAt Tryd.f6.ntmps (lcE c N i hd w tl)) (Sx.look (XA t0 t1 t2 t3 t4 t5 t6 t7 t8 t9 t10 t11 t12 t13 t14 t15 N K M bl B ++ htE c hd w tl)) 110 YES (Sx.look []) 900 := by
  obtain ⟨r1, r2, r3⟩ := rp_more (s := (bytesOf B [i] 0 (bl [i]))) (by rw [bl_len2]; exact hl)
  refine runs_more baseA (More.of (k2More_p0 t0 t1 t2 t3 t4 t5 t6 t7 t8 t9 t10 t11 t12 t13 t14 t15 c N K M bl B i hd w tl) ⟨?oo, rfl, ?rr⟩) (by kernel_rfl) (by kernel_rfl) rfl (gtL (by decide)) (by decide) next
  case oo =>
    clear next
    refine (okc ?_ (okc ?_ (okc ?_ (okc ?_ (okc ?_ (okc ?_ (okc ?_ (okc ?_ (okc ?_ (okc ?_ (okc ?_ (okc ?_ (okc ?_ (okc ?_ (okc ?_ (okc ?_ (okc ?_ (okc ?_ (okc ?_ (okc ?_ okn))))))))))))))))))))
    all_goals ((try simp (disch := omega) only [SS, nmE, mf0, List.headD_cons, Go.Sx.sum, bl_len2, hk, r1, r2, r3]); first | done | omega | assumption | (simp (disch := omega) only [SS, nmE, mf0, List.headD_cons, Go.Sx.sum, bl_len2, hk, r1, r2, r3] at *; first | done | omega | assumption) | (simp_all; done) | grind)
  case rr =>
    clear next
    have hw : IntKind.i64.wrap ((i : Int) + 1) = ((i + 1 : Nat) : Int) := by rw [wr64 (by omega)]; rfl
    simp (disch := omega) only [SS, nmE, mf0, List.headD_cons, Go.Sx.sum, bl_len2, hk, r1, r2, r3, hw]
    repeat' apply And.intro
    all_goals first | trivial | rfl | omega | exact hw.symm | (intros; first | trivial | rfl | (simp_all; done)) | (simp_all; done)

theorem k1Kind_p0 (t0 t1 t2 t3 t4 t5 t6 t7 t8 t9 t10 t11 t12 t13 t14 t15 : List UInt8) (c : Int) (N : Nat) (K M : Ix → Int) (bl : Ix → Nat) (B : Ix → Int) (i : Nat) (hd : Int) (w : Bool) (tl : Int) :
    isMore (evTill Tryd.prog sumsA 400 (behind Tryd.f6 0) 900 6 (headOf Tryd.f6 0) (envAt Tryd.f6.ntmps (lcE c N i hd w tl)) (XA t0 t1 t2 t3 t4 t5 t6 t7 t8 t9 t10 t11 t12 t13 t14 t15 N K M bl B ++ htE c hd w tl) ⟨[.s true, .s true, .s true, .s true, .s false, .s true, .s true, .t, .s false, .s true, .s false, .s false, .s false, .s true, .s true, .s true, .s true, .s true, .s true, .t, .s false, .s false, .s false, .s false, .s false], 130⟩) (moreP (headOf Tryd.f6 0) ([]) Tryd.f6.ntmps (lcE c N (i + 1) hd w tl) (htE c hd w tl) 900) =
    (OkL [(decide ((↑i : Int) < (↑N : Int)), true), (decide ((0 : Int) ≤ (↑i : Int) ∧ (↑i : Int) < (↑N : Int)), true), (((0 : Nat) + (↑i : Int).toNat).blt N, true), (((0 : Nat) + (↑i : Int).toNat).blt N, true), (decide ((↑(bl [(0 : Nat) + (↑i : Int).toNat]) : Int) > (20 : Int)), false), ((mf0 [(0 : Nat) + (↑i : Int).toNat]).blt N, true), (((0 : Nat) + bl [(0 : Nat) + (↑i : Int).toNat]).ble (bl [mf0 [(0 : Nat) + (↑i : Int).toNat]]), true), (K [(0 : Nat) + (↑i : Int).toNat] == (0 : Int), false), (K [(0 : Nat) + (↑i : Int).toNat] == (1 : Int), true), (rpB (bytesOf B [mf0 [(0 : Nat) + (↑i : Int).toNat]] (0 : Nat) (bl [(0 : Nat) + (↑i : Int).toNat])) == (0 : Int), false), (decide ((↑(bl [(0 : Nat) + (↑i : Int).toNat]) : Int) < (2 : Int)), false), (decide ((↑(bl [(0 : Nat) + (↑i : Int).toNat]) : Int) > (2 : Int)), false), (decide ((0 : Int) ≤ (0 : Int) ∧ (0 : Int) < (↑(bl [(0 : Nat) + (↑i : Int).toNat]) : Int)), true), ((mf0 [(0 : Nat) + (↑i : Int).toNat]).blt N, true), (Nat.blt (0 : Nat) (bl [mf0 [(0 : Nat) + (↑i : Int).toNat]]), true), ((mf0 [(0 : Nat) + (↑i : Int).toNat]).blt N, true), (Nat.blt (0 : Nat) (bl [mf0 [(0 : Nat) + (↑i : Int).toNat]]), true), (B [mf0 [(0 : Nat) + (↑i : Int).toNat], (0 : Nat)] != (1 : Int), true), (numOf (30 : Nat) != rpB (bytesOf B [mf0 [(0 : Nat) + (↑i : Int).toNat]] (0 : Nat) (bl [(0 : Nat) + (↑i : Int).toNat])), false), (rpB (bytesOf B [mf0 [(0 : Nat) + (↑i : Int).toNat]] (0 : Nat) (bl [(0 : Nat) + (↑i : Int).toNat])) == (0 : Int), false), (hd != hd, false), (!w == w, false), (tl != tl, false)] ∧ headOf Tryd.f6 (0 : Nat) = headOf Tryd.f6 (0 : Nat) ∧ (c = c ∧ (0 : Nat) = (0 : Nat) ∧ (0 : Nat) = (0 : Nat) ∧ hd = hd ∧ w = w ∧ tl = tl ∧ ((0 : Nat) = (0 : Nat) ∧ N = N) ∧ (↑N : Int) = (↑N : Int) ∧ (↑(i + (1 : Nat)) : Int) = IntKind.i64.wrap ((↑i : Int) + (1 : Int))) ∧ (hd = hd ∧ w = w) ∧ tl = tl ∧ iand IntKind.i64 c (27 : Int) = iand IntKind.i64 c (27 : Int)) := by kernel_rfl

set_option maxHeartbeats 4000000 in
theorem k1Kind (t0 t1 t2 t3 t4 t5 t6 t7 t8 t9 t10 t11 t12 t13 t14 t15 : List UInt8) (c : Int) (N : Nat) (K M : Ix → Int) (bl : Ix → Nat) (B : Ix → Int) (i : Nat) (hd : Int) (w : Bool) (tl : Int) (hi : i < N) (hN : N ≤ 60) (hb : bl [i] ≤ 20) (hB : ∀ j, j < bl [i] → 0 ≤ B [i, j] ∧ B [i, j] < 256) (hM : -9223372036854775808 ≤ M [i] ∧ M [i] < 9223372036854775808) (hk : K [i] = 1) (hl : bl [i] = 2) (hc : B [i, 0] ≠ 1) (next : RunsTo Tryd.prog 6 (headOf Tryd.f6 0) (envAt Tryd.f6.ntmps (lcE c N (i + 1) hd w tl)) (Sx.look (XA t0 t1 t2 t3 t4 t5 t6 t7 t8 t9 t10 t11 t12 t13 t14 t15 N K M bl B ++ htE c hd w tl)) 110 YES (Sx.look []) 900) :
    RunsTo Tryd.prog 6 (headOf Tryd.f6 0) (envAt Tryd.f6.ntmps (lcE c N i hd w tl)) (Sx.look (XA t0 t1 t2 t3 t4 t5 t6 t7 t8 t9 t10 t11 t12 t13 t14 t15 N K M bl B ++ htE c hd w tl)) 110 YES (Sx.look []) 900 := by
  have h0 := hB 0 (by omega)
  have h1 := hB 1 (by omega)
  have g0 : s0 (bytesOf B [i] 0 (bl [i])) = B [i, 0] := by_get2 (by omega) h0
  have g1 : s1 (bytesOf B [i] 0 (bl [i])) = B [i, 1] := by_get2 (by omega) h1
  obtain ⟨r1, r2, r3⟩ := rp_kind (s := (bytesOf B [i] 0 (bl [i]))) (by rw [bl_len2]; exact hl) (by rw [g0]; exact hc)
  refine runs_more baseA (More.of (k1Kind_p0 t0 t1 t2 t3 t4 t5 t6 t7 t8 t9 t10 t11 t12 t13 t14 t15 c N K M bl B i hd w tl) ⟨?oo, rfl, ?rr⟩) (by kernel_rfl) (by kernel_rfl) rfl (gtL (by decide)) (by decide) next
  case oo =>
    clear next
    refine (okc ?_ (okc ?_ (okc ?_ (okc ?_ (okc ?_ (okc ?_ (okc ?_ (okc ?_ (okc ?_ (okc ?_ (okc ?_ (okc ?_ (okc ?_ (okc ?_ (okc ?_ (okc ?_ (okc ?_ (okc ?_ (okc ?_ (okc ?_ (okc ?_ (okc ?_ (okc ?_ okn)))))))))))))))))))))))
    all_goals ((try simp (disch := omega) only [SS, nmE, mf0, List.headD_cons, Go.Sx.sum, bl_len2, hk, r1, r2, r3]); first | done | omega | assumption | (simp (disch := omega) only [SS, nmE, mf0, List.headD_cons, Go.Sx.sum, bl_len2, hk, r1, r2, r3] at *; first | done | omega | assumption) | (simp_all; done) | grind)
  case rr =>
    clear next
    have hw : IntKind.i64.wrap ((i : Int) + 1) = ((i + 1 : Nat) : Int) := by rw [wr64 (by omega)]; rfl
    simp (disch := omega) only [SS, nmE, mf0, List.headD_cons, Go.Sx.sum, bl_len2, hk, r1, r2, r3, hw]
    repeat' apply And.intro
    all_goals first | trivial | rfl | omega | exact hw.symm | (intros; first | trivial | rfl | (simp_all; done)) | (simp_all; done)

theorem k2Kind_p0 (t0 t1 t2 t3 t4 t5 t6 t7 t8 t9 t10 t11 t12 t13 t14 t15 : List UInt8) (c : Int) (N : Nat) (K M : Ix → Int) (bl : Ix → Nat) (B : Ix → Int) (i : Nat) (hd : Int) (w : Bool) (tl : Int) :
    isMore (evTill Tryd.prog sumsA 400 (behind Tryd.f6 0) 900 6 (headOf Tryd.f6 0) (envAt Tryd.f6.ntmps (lcE c N i hd w tl)) (XA t0 t1 t2 t3 t4 t5 t6 t7 t8 t9 t10 t11 t12 t13 t14 t15 N K M bl B ++ htE c hd w tl) ⟨[.s true, .s true, .s true, .s true, .s false, .s true, .s true, .t, .s false, .s false, .s true, .s false, .s false, .s false, .s true, .s true, .s true, .s true, .s true, .s true, .t, .s false, .s false, .s false, .s true, .f, .s false, .s false, .s false], 130⟩) (moreP (headOf Tryd.f6 0) ([]) Tryd.f6.ntmps (lcE c N (i + 1) hd w tl) (htE c hd w tl) 900) =
    (OkL [(decide ((↑i : Int) < (↑N : Int)), true), (decide ((0 : Int) ≤ (↑i : Int) ∧ (↑i : Int) < (↑N : Int)), true), (((0 : Nat) + (↑i : Int).toNat).blt N, true), (((0 : Nat) + (↑i : Int).toNat).blt N, true), (decide ((↑(bl [(0 : Nat) + (↑i : Int).toNat]) : Int) > (20 : Int)), false), ((mf0 [(0 : Nat) + (↑i : Int).toNat]).blt N, true), (((0 : Nat) + bl [(0 : Nat) + (↑i : Int).toNat]).ble (bl [mf0 [(0 : Nat) + (↑i : Int).toNat]]), true), (K [(0 : Nat) + (↑i : Int).toNat] == (0 : Int), false), (K [(0 : Nat) + (↑i : Int).toNat] == (1 : Int), false), (K [(0 : Nat) + (↑i : Int).toNat] == (2 : Int), true), (rpB (bytesOf B [mf0 [(0 : Nat) + (↑i : Int).toNat]] (0 : Nat) (bl [(0 : Nat) + (↑i : Int).toNat])) == (0 : Int), false), (decide ((↑(bl [(0 : Nat) + (↑i : Int).toNat]) : Int) < (2 : Int)), false), (decide ((↑(bl [(0 : Nat) + (↑i : Int).toNat]) : Int) > (2 : Int)), false), (decide ((0 : Int) ≤ (0 : Int) ∧ (0 : Int) < (↑(bl [(0 : Nat) + (↑i : Int).toNat]) : Int)), true), ((mf0 [(0 : Nat) + (↑i : Int).toNat]).blt N, true), (Nat.blt (0 : Nat) (bl [mf0 [(0 : Nat) + (↑i : Int).toNat]]), true), ((mf0 [(0 : Nat) + (↑i : Int).toNat]).blt N, true), (Nat.blt (0 : Nat) (bl [mf0 [(0 : Nat) + (↑i : Int).toNat]]), true), (B [mf0 [(0 : Nat) + (↑i : Int).toNat], (0 : Nat)] != (1 : Int), true), (rpB (bytesOf B [mf0 [(0 : Nat) + (↑i : Int).toNat]] (0 : Nat) (bl [(0 : Nat) + (↑i : Int).toNat])) == (0 : Int), false), (numOf (30 : Nat) != rpB (bytesOf B [mf0 [(0 : Nat) + (↑i : Int).toNat]] (0 : Nat) (bl [(0 : Nat) + (↑i : Int).toNat])), false), (rpB (bytesOf B [mf0 [(0 : Nat) + (↑i : Int).toNat]] (0 : Nat) (bl [(0 : Nat) + (↑i : Int).toNat])) == (0 : Int), false), (rpB (bytesOf B [mf0 [(0 : Nat) + (↑i : Int).toNat]] (0 : Nat) (bl [(0 : Nat) + (↑i : Int).toNat])) != (0 : Int), true), (hd != hd, false), (!w == w, false), (tl != tl, false)] ∧ headOf Tryd.f6 (0 : Nat) = headOf Tryd.f6 (0 : Nat) ∧ (c = c ∧ (0 : Nat) = (0 : Nat) ∧ (0 : Nat) = (0 : Nat) ∧ hd = hd ∧ w = w ∧ tl = tl ∧ ((0 : Nat) = (0 : Nat) ∧ N = N) ∧ (↑N : Int) = (↑N : Int) ∧ (↑(i + (1 : Nat)) : Int) = IntKind.i64.wrap ((↑i : Int) + (1 : Int))) ∧ (hd = hd ∧ w = w) ∧ tl = tl ∧ iand IntKind.i64 c (27 : Int) = iand IntKind.i64 c (27 : Int)) := by kernel_rfl

set_option maxHeartbeats 4000000 in
theorem k2Kind (t0 t1 t2 t3 t4 t5 t6 t7 t8 t9 t10 t11 t12 t13 t14 t15 : List UInt8) (c : Int) (N : Nat) (K M : Ix → Int) (bl : Ix → Nat) (B : Ix → Int) (i : Nat) (hd : Int) (w : Bool) (tl : Int) (hi : i < N) (hN : N ≤ 60) (hb : bl [i] ≤ 20) (hB : ∀ j, j < bl [i] → 0 ≤ B [i, j] ∧ B [i, j] < 256) (hM : -9223372036854775808 ≤ M [i] ∧ M [i] < 9223372036854775808) (hk : K [i] = 2) (hl : bl [i] = 2) (hc : B [i, 0] ≠ 1) (next : RunsTo Tryd.prog 6 (headOf Tryd.f6 0) (envAt Tryd.f6.ntmps (lcE c N (i + 1) hd w tl)) (Sx.look (XA t0 t1 t2 t3 t4 t5 t6 t7 t8 t9 t10 t11 t12 t13 t14 t15 N K M bl B ++ htE c hd w tl)) 110 YES (Sx.look []) 900) :
    RunsTo Tryd.prog 6 (headOf Tryd.f6 0) (envAt Tryd.f6.ntmps (lcE c N i hd w tl)) (Sx.look (XA t0 t1 t2 t3 t4 t5 t6 t7 t8 t9 t10 t11 t12 t13 t14 t15 N K M bl B ++ htE c hd w tl)) 110 YES (Sx.look []) 900 := by
  have h0 := hB 0 (by omega)
  have h1 := hB 1 (by omega)
  have g0 : s0 (bytesOf B [i] 0 (bl [i])) = B [i, 0] := by_get2 (by omega) h0
  have g1 : s1 (bytesOf B [i] 0 (bl [i])) = B [i, 1] := by_get2 (by omega) h1
  obtain ⟨r1, r2, r3⟩ := rp_kind (s := (bytesOf B [i] 0 (bl [i]))) (by rw [bl_len2]; exact hl) (by rw [g0]; exact hc)
  refine runs_more baseA (More.of (k2Kind_p0 t0 t1 t2 t3 t4 t5 t6 t7 t8 t9 t10 t11 t12 t13 t14 t15 c N K M bl B i hd w tl) ⟨?oo, rfl, ?rr⟩) (by kernel_rfl) (by kernel_rfl) rfl (gtL (by decide)) (by decide) next
  case oo =>
    clear next
    refine (okc ?_ (okc ?_ (okc ?_ (okc ?_ (okc ?_ (okc ?_ (okc ?_ (okc ?_ (okc ?_ (okc ?_ (okc ?_ (okc ?_ (okc ?_ (okc ?_ (okc ?_ (okc ?_ (okc ?_ (okc ?_ (okc ?_ (okc ?_ (okc ?_ (okc ?_ (okc ?_ (okc ?_ (okc ?_ (okc ?_ okn))))))))))))))))))))))))))
    all_goals ((try simp (disch := omega) only [SS, nmE, mf0, List.headD_cons, Go.Sx.sum, bl_len2, hk, r1, r2, r3]); first | done | omega | assumption | (simp (disch := omega) only [SS, nmE, mf0, List.headD_cons, Go.Sx.sum, bl_len2, hk, r1, r2, r3] at *; first | done | omega | assumption) | (simp_all; done) | grind)
  case rr =>
    clear next
    have hw : IntKind.i64.wrap ((i : Int) + 1) = ((i + 1 : Nat) : Int) := by rw [wr64 (by omega)]; rfl
    simp (disch := omega) only [SS, nmE, mf0, List.headD_cons, Go.Sx.sum, bl_len2, hk, r1, r2, r3, hw]
    repeat' apply And.intro
    all_goals first | trivial | rfl | omega | exact hw.symm | (intros; first | trivial | rfl | (simp_all; done)) | (simp_all; done)

theorem k1Form0_p0 (t0 t1 t2 t3 t4 t5 t6 t7 t8 t9 t10 t11 t12 t13 t14 t15 : List UInt8) (c : Int) (N : Nat) (K M : Ix → Int) (bl : Ix → Nat) (B : Ix → Int) (i : Nat) (hd : Int) (w : Bool) (tl : Int) :
    isMore (evTill Tryd.prog sumsA 400 (behind Tryd.f6 0) 900 6 (headOf Tryd.f6 0) (envAt Tryd.f6.ntmps (lcE c N i hd w tl)) (XA t0 t1 t2 t3 t4 t5 t6 t7 t8 t9 t10 t11 t12 t13 t14 t15 N K M bl B ++ htE c hd w tl) ⟨[.s true, .s true, .s true, .s true, .s false, .s true, .s true, .t, .s false, .s true, .s false, .s false, .s false, .s true, .s true, .s true, .s true, .s true, .s false, .s true, .s true, .s true, .s true, .s true, .t, .s true, .t, .s false, .s false, .s false, .s false, .s false], 130⟩) (moreP (headOf Tryd.f6 0) ([]) Tryd.f6.ntmps (lcE c N (i + 1) hd w tl) (htE c hd w tl) 900) =
    (OkL [(decide ((↑i : Int) < (↑N : Int)), true), (decide ((0 : Int) ≤ (↑i : Int) ∧ (↑i : Int) < (↑N : Int)), true), (((0 : Nat) + (↑i : Int).toNat).blt N, true), (((0 : Nat) + (↑i : Int).toNat).blt N, true), (decide ((↑(bl [(0 : Nat) + (↑i : Int).toNat]) : Int) > (20 : Int)), false), ((mf0 [(0 : Nat) + (↑i : Int).toNat]).blt N, true), (((0 : Nat) + bl [(0 : Nat) + (↑i : Int).toNat]).ble (bl [mf0 [(0 : Nat) + (↑i : Int).toNat]]), true), (K [(0 : Nat) + (↑i : Int).toNat] == (0 : Int), false), (K [(0 : Nat) + (↑i : Int).toNat] == (1 : Int), true), (rpB (bytesOf B [mf0 [(0 : Nat) + (↑i : Int).toNat]] (0 : Nat) (bl [(0 : Nat) + (↑i : Int).toNat])) == (0 : Int), false), (decide ((↑(bl [(0 : Nat) + (↑i : Int).toNat]) : Int) < (2 : Int)), false), (decide ((↑(bl [(0 : Nat) + (↑i : Int).toNat]) : Int) > (2 : Int)), false), (decide ((0 : Int) ≤ (0 : Int) ∧ (0 : Int) < (↑(bl [(0 : Nat) + (↑i : Int).toNat]) : Int)), true), ((mf0 [(0 : Nat) + (↑i : Int).toNat]).blt N, true), (Nat.blt (0 : Nat) (bl [mf0 [(0 : Nat) + (↑i : Int).toNat]]), true), ((mf0 [(0 : Nat) + (↑i : Int).toNat]).blt N, true), (Nat.blt (0 : Nat) (bl [mf0 [(0 : Nat) + (↑i : Int).toNat]]), true), (B [mf0 [(0 : Nat) + (↑i : Int).toNat], (0 : Nat)] != (1 : Int), false), (decide ((0 : Int) ≤ (1 : Int) ∧ (1 : Int) < (↑(bl [(0 : Nat) + (↑i : Int).toNat]) : Int)), true), ((mf0 [(0 : Nat) + (↑i : Int).toNat]).blt N, true), (Nat.blt (1 : Nat) (bl [mf0 [(0 : Nat) + (↑i : Int).toNat]]), true), ((mf0 [(0 : Nat) + (↑i : Int).toNat]).blt N, true), (Nat.blt (1 : Nat) (bl [mf0 [(0 : Nat) + (↑i : Int).toNat]]), true), (!rightC (iandn IntKind.i64 (IntKind.i64.wrap (B [mf0 [(0 : Nat) + (↑i : Int).toNat], (1 : Nat)])) (4 : Int)), true), (numOf (25 : Nat) != rpB (bytesOf B [mf0 [(0 : Nat) + (↑i : Int).toNat]] (0 : Nat) (bl [(0 : Nat) + (↑i : Int).toNat])), false), (rpB (bytesOf B [mf0 [(0 : Nat) + (↑i : Int).toNat]] (0 : Nat) (bl [(0 : Nat) + (↑i : Int).toNat])) == (0 : Int), false), (hd != hd, false), (!w == w, false), (tl != tl, false)] ∧ headOf Tryd.f6 (0 : Nat) = headOf Tryd.f6 (0 : Nat) ∧ (c = c ∧ (0 : Nat) = (0 : Nat) ∧ (0 : Nat) = (0 : Nat) ∧ hd = hd ∧ w = w ∧ tl = tl ∧ ((0 : Nat) = (0 : Nat) ∧ N = N) ∧ (↑N : Int) = (↑N : Int) ∧ (↑(i + (1 : Nat)) : Int) = IntKind.i64.wrap ((↑i : Int) + (1 : Int))) ∧ (hd = hd ∧ w = w) ∧ tl = tl ∧ iand IntKind.i64 c (27 : Int) = iand IntKind.i64 c (27 : Int)) := by kernel_rfl

set_option maxHeartbeats 4000000 in
theorem k1Form0 (t0 t1 t2 t3 t4 t5 t6 t7 t8 t9 t10 t11 t12 t13 t14 t15 : List UInt8) (c : Int) (N : Nat) (K M : Ix → Int) (bl : Ix → Nat) (B : Ix → Int) (i : Nat) (hd : Int) (w : Bool) (tl : Int) (hi : i < N) (hN : N ≤ 60) (hb : bl [i] ≤ 20) (hB : ∀ j, j < bl [i] → 0 ≤ B [i, j] ∧ B [i, j] < 256) (hM : -9223372036854775808 ≤ M [i] ∧ M [i] < 9223372036854775808) (hk : K [i] = 1) (hl : bl [i] = 2) (hc : B [i, 0] = 1) (ha : ackR (B [i, 1]) = false) (hr : rightR (maskR (B [i, 1])) = false) (next : RunsTo Tryd.prog 6 (headOf Tryd.f6 0) (envAt Tryd.f6.ntmps (lcE c N (i + 1) hd w tl)) (Sx.look (XA t0 t1 t2 t3 t4 t5 t6 t7 t8 t9 t10 t11 t12 t13 t14 t15 N K M bl B ++ htE c hd w tl)) 110 YES (Sx.look []) 900) :
    RunsTo Tryd.prog 6 (headOf Tryd.f6 0) (envAt Tryd.f6.ntmps (lcE c N i hd w tl)) (Sx.look (XA t0 t1 t2 t3 t4 t5 t6 t7 t8 t9 t10 t11 t12 t13 t14 t15 N K M bl B ++ htE c hd w tl)) 110 YES (Sx.look []) 900 := by
  have h0 := hB 0 (by omega)
  have h1 := hB 1 (by omega)
  have g0 : s0 (bytesOf B [i] 0 (bl [i])) = B [i, 0] := by_get2 (by omega) h0
  have g1 : s1 (bytesOf B [i] 0 (bl [i])) = B [i, 1] := by_get2 (by omega) h1
  obtain ⟨r1, r2, r3⟩ := rp_form (s := (bytesOf B [i] 0 (bl [i]))) (by rw [bl_len2]; exact hl) (by rw [g0]; exact hc) (by rw [g1]; exact hr)
  obtain ⟨e1, e2, e3⟩ := byte_eq h1.1 h1.2
  have hmk : maskR (B [i, 1]) = B [i, 1] := by simp [maskR, ha]
  rw [hr] at e2
  rw [ha] at e3
  have hr2 := hr
  rw [hmk] at hr2 e1 e2
  refine runs_more baseA (More.of (k1Form0_p0 t0 t1 t2 t3 t4 t5 t6 t7 t8 t9 t10 t11 t12 t13 t14 t15 c N K M bl B i hd w tl) ⟨?oo, rfl, ?rr⟩) (by kernel_rfl) (by kernel_rfl) rfl (gtL (by decide)) (by decide) next
  case oo =>
    clear next
    refine (okc ?_ (okc ?_ (okc ?_ (okc ?_ (okc ?_ (okc ?_ (okc ?_ (okc ?_ (okc ?_ (okc ?_ (okc ?_ (okc ?_ (okc ?_ (okc ?_ (okc ?_ (okc ?_ (okc ?_ (okc ?_ (okc ?_ (okc ?_ (okc ?_ (okc ?_ (okc ?_ (okc ?_ (okc ?_ (okc ?_ (okc ?_ (okc ?_ (okc ?_ okn)))))))))))))))))))))))))))))
    all_goals ((try simp (disch := omega) only [SS, nmE, mf0, List.headD_cons, Go.Sx.sum, bl_len2, hk, r1, r2, r3, e1, e2, e3, ha]); first | done | omega | assumption | (simp (disch := omega) only [SS, nmE, mf0, List.headD_cons, Go.Sx.sum, bl_len2, hk, r1, r2, r3, e1, e2, e3, ha] at *; first | done | omega | assumption) | (simp_all; done) | grind)
  case rr =>
    clear next
    have hw : IntKind.i64.wrap ((i : Int) + 1) = ((i + 1 : Nat) : Int) := by rw [wr64 (by omega)]; rfl
    simp (disch := omega) only [SS, nmE, mf0, List.headD_cons, Go.Sx.sum, bl_len2, hk, r1, r2, r3, e1, e2, e3, ha, hw]
    repeat' apply And.intro
    all_goals first | trivial | rfl | omega | exact hw.symm | (intros; first | trivial | rfl | (simp_all; done)) | (simp_all; done)

theorem k2Form0_p0 (t0 t1 t2 t3 t4 t5 t6 t7 t8 t9 t10 t11 t12 t13 t14 t15 : List UInt8) (c : Int) (N : Nat) (K M : Ix → Int) (bl : Ix → Nat) (B : Ix → Int) (i : Nat) (hd : Int) (w : Bool) (tl : Int) :
    isMore (evTill Tryd.prog sumsA 400 (behind Tryd.f6 0) 900 6 (headOf Tryd.f6 0) (envAt Tryd.f6.ntmps (lcE c N i hd w tl)) (XA t0 t1 t2 t3 t4 t5 t6 t7 t8 t9 t10 t11 t12 t13 t14 t15 N K M bl B ++ htE c hd w tl) ⟨[.s true, .s true, .s true, .s true, .s false, .s true, .s true, .t, .s false, .s false, .s true, .s false, .s false, .s false, .s true, .s true, .s true, .s true, .s true, .s false, .s true, .s true, .s true, .s true, .s true, .t, .s true, .t, .s false, .s false, .s false, .s true, .f, .s false, .s false, .s false], 130⟩) (moreP (headOf Tryd.f6 0) ([]) Tryd.f6.ntmps (lcE c N (i + 1) hd w tl) (htE c hd w tl) 900) =
    (OkL [(decide ((↑i : Int) < (↑N : Int)), true), (decide ((0 : Int) ≤ (↑i : Int) ∧ (↑i : Int) < (↑N : Int)), true), (((0 : Nat) + (↑i : Int).toNat).blt N, true), (((0 : Nat) + (↑i : Int).toNat).blt N, true), (decide ((↑(bl [(0 : Nat) + (↑i : Int).toNat]) : Int) > (20 : Int)), false), ((mf0 [(0 : Nat) + (↑i : Int).toNat]).blt N, true), (((0 : Nat) + bl [(0 : Nat) + (↑i : Int).toNat]).ble (bl [mf0 [(0 : Nat) + (↑i : Int).toNat]]), true), (K [(0 : Nat) + (↑i : Int).toNat] == (0 : Int), false), (K [(0 : Nat) + (↑i : Int).toNat] == (1 : Int), false), (K [(0 : Nat) + (↑i : Int).toNat] == (2 : Int), true), (rpB (bytesOf B [mf0 [(0 : Nat) + (↑i : Int).toNat]] (0 : Nat) (bl [(0 : Nat) + (↑i : Int).toNat])) == (0 : Int), false), (decide ((↑(bl [(0 : Nat) + (↑i : Int).toNat]) : Int) < (2 : Int)), false), (decide ((↑(bl [(0 : Nat) + (↑i : Int).toNat]) : Int) > (2 : Int)), false), (decide ((0 : Int) ≤ (0 : Int) ∧ (0 : Int) < (↑(bl [(0 : Nat) + (↑i : Int).toNat]) : Int)), true), ((mf0 [(0 : Nat) + (↑i : Int).toNat]).blt N, true), (Nat.blt (0 : Nat) (bl [mf0 [(0 : Nat) + (↑i : Int).toNat]]), true), ((mf0 [(0 : Nat) + (↑i : Int).toNat]).blt N, true), (Nat.blt (0 : Nat) (bl [mf0 [(0 : Nat) + (↑i : Int).toNat]]), true), (B [mf0 [(0 : Nat) + (↑i : Int).toNat], (0 : Nat)] != (1 : Int), false), (decide ((0 : Int) ≤ (1 : Int) ∧ (1 : Int) < (↑(bl [(0 : Nat) + (↑i : Int).toNat]) : Int)), true), ((mf0 [(0 : Nat) + (↑i : Int).toNat]).blt N, true), (Nat.blt (1 : Nat) (bl [mf0 [(0 : Nat) + (↑i : Int).toNat]]), true), ((mf0 [(0 : Nat) + (↑i : Int).toNat]).blt N, true), (Nat.blt (1 : Nat) (bl [mf0 [(0 : Nat) + (↑i : Int).toNat]]), true), (!rightC (iandn IntKind.i64 (IntKind.i64.wrap (B [mf0 [(0 : Nat) + (↑i : Int).toNat], (1 : Nat)])) (4 : Int)), true), (rpB (bytesOf B [mf0 [(0 : Nat) + (↑i : Int).toNat]] (0 : Nat) (bl [(0 : Nat) + (↑i : Int).toNat])) == (0 : Int), false), (numOf (25 : Nat) != rpB (bytesOf B [mf0 [(0 : Nat) + (↑i : Int).toNat]] (0 : Nat) (bl [(0 : Nat) + (↑i : Int).toNat])), false), (rpB (bytesOf B [mf0 [(0 : Nat) + (↑i : Int).toNat]] (0 : Nat) (bl [(0 : Nat) + (↑i : Int).toNat])) == (0 : Int), false), (rpB (bytesOf B [mf0 [(0 : Nat) + (↑i : Int).toNat]] (0 : Nat) (bl [(0 : Nat) + (↑i : Int).toNat])) != (0 : Int), true), (hd != hd, false), (!w == w, false), (tl != tl, false)] ∧ headOf Tryd.f6 (0 : Nat) = headOf Tryd.f6 (0 : Nat) ∧ (c = c ∧ (0 : Nat) = (0 : Nat) ∧ (0 : Nat) = (0 : Nat) ∧ hd = hd ∧ w = w ∧ tl = tl ∧ ((0 : Nat) = (0 : Nat) ∧ N = N) ∧ (↑N : Int) = (↑N : Int) ∧ (↑(i + (1 : Nat)) : Int) = IntKind.i64.wrap ((↑i : Int) + (1 : Int))) ∧ (hd = hd ∧ w = w) ∧ tl = tl ∧ iand IntKind.i64 c (27 : Int) = iand IntKind.i64 c (27 : Int)) := by kernel_rfl

set_option maxHeartbeats 4000000 in
theorem k2Form0 (t0 t1 t2 t3 t4 t5 t6 t7 t8 t9 t10 t11 t12 t13 t14 t15 : List UInt8) (c : Int) (N : Nat) (K M : Ix → Int) (bl : Ix → Nat) (B : Ix → Int) (i : Nat) (hd : Int) (w : Bool) (tl : Int) (hi : i < N) (hN : N ≤ 60) (hb : bl [i] ≤ 20) (hB : ∀ j, j < bl [i] → 0 ≤ B [i, j] ∧ B [i, j] < 256) (hM : -9223372036854775808 ≤ M [i] ∧ M [i] < 9223372036854775808) (hk : K [i] = 2) (hl : bl [i] = 2) (hc : B [i, 0] = 1) (ha : ackR (B [i, 1]) = false) (hr : rightR (maskR (B [i, 1])) = false) (next : RunsTo Tryd.prog 6 (headOf Tryd.f6 0) (envAt Tryd.f6.ntmps (lcE c N (i + 1) hd w tl)) (Sx.look (XA t0 t1 t2 t3 t4 t5 t6 t7 t8 t9 t10 t11 t12 t13 t14 t15 N K M bl B ++ htE c hd w tl)) 110 YES (Sx.look []) 900) :
    RunsTo Tryd.prog 6 (headOf Tryd.f6 0) (envAt Tryd.f6.ntmps (lcE c N i hd w tl)) (Sx.look (XA t0 t1 t2 t3 t4 t5 t6 t7 t8 t9 t10 t11 t12 t13 t14 t15 N K M bl B ++ htE c hd w tl)) 110 YES (Sx.look []) 900 := by
  have h0 := hB 0 (by omega)
  have h1 := hB 1 (by omega)
  have g0 : s0 (bytesOf B [i] 0 (bl [i])) = B [i, 0] := by_get2 (by omega) h0
  have g1 : s1 (bytesOf B [i] 0 (bl [i])) = B [i, 1] := by_get2 (by omega) h1
  obtain ⟨r1, r2, r3⟩ := rp_form (s := (bytesOf B [i] 0 (bl [i]))) (by rw [bl_len2]; exact hl) (by rw [g0]; exact hc) (by rw [g1]; exact hr)
  obtain ⟨e1, e2, e3⟩ := byte_eq h1.1 h1.2
  have hmk : maskR (B [i, 1]) = B [i, 1] := by simp [maskR, ha]
  rw [hr] at e2
  rw [ha] at e3
  have hr2 := hr
  rw [hmk] at hr2 e1 e2
  refine runs_more baseA (More.of (k2Form0_p0 t0 t1 t2 t3 t4 t5 t6 t7 t8 t9 t10 t11 t12 t13 t14 t15 c N K M bl B i hd w tl) ⟨?oo, rfl, ?rr⟩) (by kernel_rfl) (by kernel_rfl) rfl (gtL (by decide)) (by decide) next
  case oo =>
    clear next
    refine (okc ?_ (okc ?_ (okc ?_ (okc ?_ (okc ?_ (okc ?_ (okc ?_ (okc ?_ (okc ?_ (okc ?_ (okc ?_ (okc ?_ (okc ?_ (okc ?_ (okc ?_ (okc ?_ (okc ?_ (okc ?_ (okc ?_ (okc ?_ (okc ?_ (okc ?_ (okc ?_ (okc ?_ (okc ?_ (okc ?_ (okc ?_ (okc ?_ (okc ?_ (okc ?_ (okc ?_ (okc ?_ okn))))))))))))))))))))))))))))))))
    all_goals ((try simp (disch := omega) only [SS, nmE, mf0, List.headD_cons, Go.Sx.sum, bl_len2, hk, r1, r2, r3, e1, e2, e3, ha]); first | done | omega | assumption | (simp (disch := omega) only [SS, nmE, mf0, List.headD_cons, Go.Sx.sum, bl_len2, hk, r1, r2, r3, e1, e2, e3, ha] at *; first | done | omega | assumption) | (simp_all; done) | grind)
  case rr =>
    clear next
    have hw : IntKind.i64.wrap ((i : Int) + 1) = ((i + 1 : Nat) : Int) := by rw [wr64 (by omega)]; rfl
    simp (disch := omega) only [SS, nmE, mf0, List.headD_cons, Go.Sx.sum, bl_len2, hk, r1, r2, r3, e1, e2, e3, ha, hw]
    repeat' apply And.intro
    all_goals first | trivial | rfl | omega | exact hw.symm | (intros; first | trivial | rfl | (simp_all; done)) | (simp_all; done)

theorem k1Ok0_p0 (t0 t1 t2 t3 t4 t5 t6 t7 t8 t9 t10 t11 t12 t13 t14 t15 : List UInt8) (c : Int) (N : Nat) (K M : Ix → Int) (bl : Ix → Nat) (B : Ix → Int) (i : Nat) (hd : Int) (w : Bool) (tl : Int) :
    isMore (evTill Tryd.prog sumsA 400 (behind Tryd.f6 0) 900 6 (headOf Tryd.f6 0) (envAt Tryd.f6.ntmps (lcE c N i hd w tl)) (XA t0 t1 t2 t3 t4 t5 t6 t7 t8 t9 t10 t11 t12 t13 t14 t15 N K M bl B ++ htE c hd w tl) ⟨[.s true, .s true, .s true, .s true, .s false, .s true, .s true, .t, .s false, .s true, .s true, .s true, .s false, .s false, .s true, .s true, .s true, .s true, .s true, .s false, .s true, .s true, .s true, .s true, .s true, .t, .s false, .s true, .s true, .s true, .s true, .s true, .f, .s true, .f, .f, .s false, .s false, .s false], 130⟩) (moreP (headOf Tryd.f6 0) ([]) Tryd.f6.ntmps (lcE c N (i + 1) hd w tl) (htE c hd w tl) 900) =
    (OkL [(decide ((↑i : Int) < (↑N : Int)), true), (decide ((0 : Int) ≤ (↑i : Int) ∧ (↑i : Int) < (↑N : Int)), true), (((0 : Nat) + (↑i : Int).toNat).blt N, true), (((0 : Nat) + (↑i : Int).toNat).blt N, true), (decide ((↑(bl [(0 : Nat) + (↑i : Int).toNat]) : Int) > (20 : Int)), false), ((mf0 [(0 : Nat) + (↑i : Int).toNat]).blt N, true), (((0 : Nat) + bl [(0 : Nat) + (↑i : Int).toNat]).ble (bl [mf0 [(0 : Nat) + (↑i : Int).toNat]]), true), (K [(0 : Nat) + (↑i : Int).toNat] == (0 : Int), false), (K [(0 : Nat) + (↑i : Int).toNat] == (1 : Int), true), (rpB (bytesOf B [mf0 [(0 : Nat) + (↑i : Int).toNat]] (0 : Nat) (bl [(0 : Nat) + (↑i : Int).toNat])) == (0 : Int), true), (!rpA (bytesOf B [mf0 [(0 : Nat) + (↑i : Int).toNat]] (0 : Nat) (bl [(0 : Nat) + (↑i : Int).toNat])), true), (decide ((↑(bl [(0 : Nat) + (↑i : Int).toNat]) : Int) < (2 : Int)), false), (decide ((↑(bl [(0 : Nat) + (↑i : Int).toNat]) : Int) > (2 : Int)), false), (decide ((0 : Int) ≤ (0 : Int) ∧ (0 : Int) < (↑(bl [(0 : Nat) + (↑i : Int).toNat]) : Int)), true), ((mf0 [(0 : Nat) + (↑i : Int).toNat]).blt N, true), (Nat.blt (0 : Nat) (bl [mf0 [(0 : Nat) + (↑i : Int).toNat]]), true), ((mf0 [(0 : Nat) + (↑i : Int).toNat]).blt N, true), (Nat.blt (0 : Nat) (bl [mf0 [(0 : Nat) + (↑i : Int).toNat]]), true), (B [mf0 [(0 : Nat) + (↑i : Int).toNat], (0 : Nat)] != (1 : Int), false), (decide ((0 : Int) ≤ (1 : Int) ∧ (1 : Int) < (↑(bl [(0 : Nat) + (↑i : Int).toNat]) : Int)), true), ((mf0 [(0 : Nat) + (↑i : Int).toNat]).blt N, true), (Nat.blt (1 : Nat) (bl [mf0 [(0 : Nat) + (↑i : Int).toNat]]), true), ((mf0 [(0 : Nat) + (↑i : Int).toNat]).blt N, true), (Nat.blt (1 : Nat) (bl [mf0 [(0 : Nat) + (↑i : Int).toNat]]), true), (!rightC (iandn IntKind.i64 (IntKind.i64.wrap (B [mf0 [(0 : Nat) + (↑i : Int).toNat], (1 : Nat)])) (4 : Int)), false), (decide ((0 : Int) ≤ (1 : Int) ∧ (1 : Int) < (↑(bl [(0 : Nat) + (↑i : Int).toNat]) : Int)), true), ((mf0 [(0 : Nat) + (↑i : Int).toNat]).blt N, true), (Nat.blt (1 : Nat) (bl [mf0 [(0 : Nat) + (↑i : Int).toNat]]), true), ((mf0 [(0 : Nat) + (↑i : Int).toNat]).blt N, true), (Nat.blt (1 : Nat) (bl [mf0 [(0 : Nat) + (↑i : Int).toNat]]), true), (!iand IntKind.u8 (B [mf0 [(0 : Nat) + (↑i : Int).toNat], (1 : Nat)]) (4 : Int) != (0 : Int), true), (hd != hd, false), (!w == w, false), (tl != tl, false)] ∧ headOf Tryd.f6 (0 : Nat) = headOf Tryd.f6 (0 : Nat) ∧ (c = c ∧ (0 : Nat) = (0 : Nat) ∧ (0 : Nat) = (0 : Nat) ∧ hd = hd ∧ w = w ∧ tl = tl ∧ ((0 : Nat) = (0 : Nat) ∧ N = N) ∧ (↑N : Int) = (↑N : Int) ∧ (↑(i + (1 : Nat)) : Int) = IntKind.i64.wrap ((↑i : Int) + (1 : Int))) ∧ (hd = hd ∧ w = w) ∧ tl = tl ∧ iand IntKind.i64 c (27 : Int) = iand IntKind.i64 c (27 : Int)) := by kernel_rfl

set_option maxHeartbeats 4000000 in
theorem k1Ok0 (t0 t1 t2 t3 t4 t5 t6 t7 t8 t9 t10 t11 t12 t13 t14 t15 : List UInt8) (c : Int) (N : Nat) (K M : Ix → Int) (bl : Ix → Nat) (B : Ix → Int) (i : Nat) (hd : Int) (w : Bool) (tl : Int) (hi : i < N) (hN : N ≤ 60) (hb : bl [i] ≤ 20) (hB : ∀ j, j < bl [i] → 0 ≤ B [i, j] ∧ B [i, j] < 256) (hM : -9223372036854775808 ≤ M [i] ∧ M [i] < 9223372036854775808) (hk : K [i] = 1) (hl : bl [i] = 2) (hc : B [i, 0] = 1) (ha : ackR (B [i, 1]) = false) (hr : rightR (maskR (B [i, 1])) = true) (next : RunsTo Tryd.prog 6 (headOf Tryd.f6 0) (envAt Tryd.f6.ntmps (lcE c N (i + 1) hd w tl)) (Sx.look (XA t0 t1 t2 t3 t4 t5 t6 t7 t8 t9 t10 t11 t12 t13 t14 t15 N K M bl B ++ htE c hd w tl)) 110 YES (Sx.look []) 900) :
    RunsTo Tryd.prog 6 (headOf Tryd.f6 0) (envAt Tryd.f6.ntmps (lcE c N i hd w tl)) (Sx.look (XA t0 t1 t2 t3 t4 t5 t6 t7 t8 t9 t10 t11 t12 t13 t14 t15 N K M bl B ++ htE c hd w tl)) 110 YES (Sx.look []) 900 := by
  have h0 := hB 0 (by omega)
  have h1 := hB 1 (by omega)
  have g0 : s0 (bytesOf B [i] 0 (bl [i])) = B [i, 0] := by_get2 (by omega) h0
  have g1 : s1 (bytesOf B [i] 0 (bl [i])) = B [i, 1] := by_get2 (by omega) h1
  obtain ⟨r1, r2, r3⟩ := rp_ok (s := (bytesOf B [i] 0 (bl [i]))) (by rw [bl_len2]; exact hl) (by rw [g0]; exact hc) (by rw [g1]; exact hr)
  rw [g1] at r2 r3
  obtain ⟨e1, e2, e3⟩ := byte_eq h1.1 h1.2
  have hmk : maskR (B [i, 1]) = B [i, 1] := by simp [maskR, ha]
  rw [hr] at e2
  rw [ha] at e3
  have hr2 := hr
  rw [hmk] at hr2 e1 e2
  rw [ha] at r3
  rw [hmk] at r2
  refine runs_more baseA (More.of (k1Ok0_p0 t0 t1 t2 t3 t4 t5 t6 t7 t8 t9 t10 t11 t12 t13 t14 t15 c N K M bl B i hd w tl) ⟨?oo, rfl, ?rr⟩) (by kernel_rfl) (by kernel_rfl) rfl (gtL (by decide)) (by decide) next
  case oo =>
    clear next
    refine (okc ?_ (okc ?_ (okc ?_ (okc ?_ (okc ?_ (okc ?_ (okc ?_ (okc ?_ (okc ?_ (okc ?_ (okc ?_ (okc ?_ (okc ?_ (okc ?_ (okc ?_ (okc ?_ (okc ?_ (okc ?_ (okc ?_ (okc ?_ (okc ?_ (okc ?_ (okc ?_ (okc ?_ (okc ?_ (okc ?_ (okc ?_ (okc ?_ (okc ?_ (okc ?_ (okc ?_ (okc ?_ (okc ?_ (okc ?_ okn))))))))))))))))))))))))))))))))))
    all_goals ((try simp (disch := omega) only [SS, nmE, mf0, List.headD_cons, Go.Sx.sum, bl_len2, hk, r1, r2, r3, e1, e2, e3, ha]); first | done | omega | assumption | (simp (disch := omega) only [SS, nmE, mf0, List.headD_cons, Go.Sx.sum, bl_len2, hk, r1, r2, r3, e1, e2, e3, ha] at *; first | done | omega | assumption) | (simp_all; done) | grind)
  case rr =>
    clear next
    have hw : IntKind.i64.wrap ((i : Int) + 1) = ((i + 1 : Nat) : Int) := by rw [wr64 (by omega)]; rfl
    simp (disch := omega) only [SS, nmE, mf0, List.headD_cons, Go.Sx.sum, bl_len2, hk, r1, r2, r3, e1, e2, e3, ha, hw]
    repeat' apply And.intro
    all_goals first | trivial | rfl | omega | exact hw.symm | (intros; first | trivial | rfl | (simp_all; done)) | (simp_all; done)

theorem k2Ok_p0 (t0 t1 t2 t3 t4 t5 t6 t7 t8 t9 t10 t11 t12 t13 t14 t15 : List UInt8) (c : Int) (N : Nat) (K M : Ix → Int) (bl : Ix → Nat) (B : Ix → Int) (i : Nat) (hd : Int) (w : Bool) (tl : Int) :
    isMore (evTill Tryd.prog sumsA 400 (behind Tryd.f6 0) 900 6 (headOf Tryd.f6 0) (envAt Tryd.f6.ntmps (lcE c N i hd w tl)) (XA t0 t1 t2 t3 t4 t5 t6 t7 t8 t9 t10 t11 t12 t13 t14 t15 N K M bl B ++ htE c hd w tl) ⟨[.s true, .s true, .s true, .s true, .s false, .s true, .s true, .t, .s false, .s false, .s true, .s true, .s false, .s false, .s false, .s true, .s true, .s true, .s true, .s true, .s false, .s true, .s true, .s true, .s true, .s true, .t, .s false, .s true, .s true, .s true, .s true, .s true, .f, .s false, .s true, .t, .s false, .s true, .t, .t, .s false, .s false, .s false, .s false, .s false], 130⟩) (moreP (headOf Tryd.f6 0) ([]) Tryd.f6.ntmps (lcE c N (i + 1) hd w (bothR (B [i, 1]) c)) (htE c hd w (bothR (B [i, 1]) c)) 900) =
    (OkL [(decide ((↑i : Int) < (↑N : Int)), true), (decide ((0 : Int) ≤ (↑i : Int) ∧ (↑i : Int) < (↑N : Int)), true), (((0 : Nat) + (↑i : Int).toNat).blt N, true), (((0 : Nat) + (↑i : Int).toNat).blt N, true), (decide ((↑(bl [(0 : Nat) + (↑i : Int).toNat]) : Int) > (20 : Int)), false), ((mf0 [(0 : Nat) + (↑i : Int).toNat]).blt N, true), (((0 : Nat) + bl [(0 : Nat) + (↑i : Int).toNat]).ble (bl [mf0 [(0 : Nat) + (↑i : Int).toNat]]), true), (K [(0 : Nat) + (↑i : Int).toNat] == (0 : Int), false), (K [(0 : Nat) + (↑i : Int).toNat] == (1 : Int), false), (K [(0 : Nat) + (↑i : Int).toNat] == (2 : Int), true), (rpB (bytesOf B [mf0 [(0 : Nat) + (↑i : Int).toNat]] (0 : Nat) (bl [(0 : Nat) + (↑i : Int).toNat])) == (0 : Int), true), (rpA (bytesOf B [mf0 [(0 : Nat) + (↑i : Int).toNat]] (0 : Nat) (bl [(0 : Nat) + (↑i : Int).toNat])), false), (decide ((↑(bl [(0 : Nat) + (↑i : Int).toNat]) : Int) < (2 : Int)), false), (decide ((↑(bl [(0 : Nat) + (↑i : Int).toNat]) : Int) > (2 : Int)), false), (decide ((0 : Int) ≤ (0 : Int) ∧ (0 : Int) < (↑(bl [(0 : Nat) + (↑i : Int).toNat]) : Int)), true), ((mf0 [(0 : Nat) + (↑i : Int).toNat]).blt N, true), (Nat.blt (0 : Nat) (bl [mf0 [(0 : Nat) + (↑i : Int).toNat]]), true), ((mf0 [(0 : Nat) + (↑i : Int).toNat]).blt N, true), (Nat.blt (0 : Nat) (bl [mf0 [(0 : Nat) + (↑i : Int).toNat]]), true), (B [mf0 [(0 : Nat) + (↑i : Int).toNat], (0 : Nat)] != (1 : Int), false), (decide ((0 : Int) ≤ (1 : Int) ∧ (1 : Int) < (↑(bl [(0 : Nat) + (↑i : Int).toNat]) : Int)), true), ((mf0 [(0 : Nat) + (↑i : Int).toNat]).blt N, true), (Nat.blt (1 : Nat) (bl [mf0 [(0 : Nat) + (↑i : Int).toNat]]), true), ((mf0 [(0 : Nat) + (↑i : Int).toNat]).blt N, true), (Nat.blt (1 : Nat) (bl [mf0 [(0 : Nat) + (↑i : Int).toNat]]), true), (!rightC (iandn IntKind.i64 (IntKind.i64.wrap (B [mf0 [(0 : Nat) + (↑i : Int).toNat], (1 : Nat)])) (4 : Int)), false), (decide ((0 : Int) ≤ (1 : Int) ∧ (1 : Int) < (↑(bl [(0 : Nat) + (↑i : Int).toNat]) : Int)), true), ((mf0 [(0 : Nat) + (↑i : Int).toNat]).blt N, true), (Nat.blt (1 : Nat) (bl [mf0 [(0 : Nat) + (↑i : Int).toNat]]), true), ((mf0 [(0 : Nat) + (↑i : Int).toNat]).blt N, true), (Nat.blt (1 : Nat) (bl [mf0 [(0 : Nat) + (↑i : Int).toNat]]), true), (iand IntKind.u8 (B [mf0 [(0 : Nat) + (↑i : Int).toNat], (1 : Nat)]) (4 : Int) != (0 : Int), false), (rpB (bytesOf B [mf0 [(0 : Nat) + (↑i : Int).toNat]] (0 : Nat) (bl [(0 : Nat) + (↑i : Int).toNat])) == (0 : Int), true), ((0 : Int) != rpB (bytesOf B [mf0 [(0 : Nat) + (↑i : Int).toNat]] (0 : Nat) (bl [(0 : Nat) + (↑i : Int).toNat])), false), (rpB (bytesOf B [mf0 [(0 : Nat) + (↑i : Int).toNat]] (0 : Nat) (bl [(0 : Nat) + (↑i : Int).toNat])) == (0 : Int), true), (!bytesOf (upd (upd (fun is => (0 : Int)) [(0 : Nat)] (1 : Int)) [(1 : Nat)] (IntKind.u8.wrap (ior IntKind.i64 (iand IntKind.i64 (iandn IntKind.i64 (IntKind.i64.wrap (B [mf0 [(0 : Nat) + (↑i : Int).toNat], (1 : Nat)])) (4 : Int)) (iand IntKind.i64 c (27 : Int))) (4 : Int)))) [] (0 : Nat) (2 : Nat) == bytesOf (upd (upd (fun is => (0 : Int)) [(0 : Nat)] (1 : Int)) [(1 : Nat)] (IntKind.u8.wrap (IntKind.i64.wrap (bothR (rpN (bytesOf B [mf0 [(0 : Nat) + (↑i : Int).toNat]] (0 : Nat) (bl [(0 : Nat) + (↑i : Int).toNat]))) c + (4 : Int))))) [] (0 : Nat) (2 : Nat), false), (rpB (bytesOf B [mf0 [(0 : Nat) + (↑i : Int).toNat]] (0 : Nat) (bl [(0 : Nat) + (↑i : Int).toNat])) != (0 : Int), false), (hd != hd, false), (!w == w, false), (iand IntKind.i64 (iandn IntKind.i64 (IntKind.i64.wrap (B [mf0 [(0 : Nat) + (↑i : Int).toNat], (1 : Nat)])) (4 : Int)) (iand IntKind.i64 c (27 : Int)) != bothR (rpN (bytesOf B [mf0 [(0 : Nat) + (↑i : Int).toNat]] (0 : Nat) (bl [(0 : Nat) + (↑i : Int).toNat]))) c, false)] ∧ headOf Tryd.f6 (0 : Nat) = headOf Tryd.f6 (0 : Nat) ∧ (c = c ∧ (0 : Nat) = (0 : Nat) ∧ (0 : Nat) = (0 : Nat) ∧ hd = hd ∧ w = w ∧ bothR (B [i, (1 : Nat)]) c = bothR (rpN (bytesOf B [mf0 [(0 : Nat) + (↑i : Int).toNat]] (0 : Nat) (bl [(0 : Nat) + (↑i : Int).toNat]))) c ∧ ((0 : Nat) = (0 : Nat) ∧ N = N) ∧ (↑N : Int) = (↑N : Int) ∧ (↑(i + (1 : Nat)) : Int) = IntKind.i64.wrap ((↑i : Int) + (1 : Int))) ∧ (hd = hd ∧ w = w) ∧ bothR (B [i, (1 : Nat)]) c = iand IntKind.i64 (iandn IntKind.i64 (IntKind.i64.wrap (B [mf0 [(0 : Nat) + (↑i : Int).toNat], (1 : Nat)])) (4 : Int)) (iand IntKind.i64 c (27 : Int)) ∧ iand IntKind.i64 c (27 : Int) = iand IntKind.i64 c (27 : Int)) := by kernel_rfl

set_option maxHeartbeats 4000000 in
theorem k2Ok (t0 t1 t2 t3 t4 t5 t6 t7 t8 t9 t10 t11 t12 t13 t14 t15 : List UInt8) (c : Int) (N : Nat) (K M : Ix → Int) (bl : Ix → Nat) (B : Ix → Int) (i : Nat) (hd : Int) (w : Bool) (tl : Int) (hi : i < N) (hN : N ≤ 60) (hb : bl [i] ≤ 20) (hB : ∀ j, j < bl [i] → 0 ≤ B [i, j] ∧ B [i, j] < 256) (hM : -9223372036854775808 ≤ M [i] ∧ M [i] < 9223372036854775808) (hk : K [i] = 2) (hl : bl [i] = 2) (hc : B [i, 0] = 1) (ha : ackR (B [i, 1]) = false) (hr : rightR (maskR (B [i, 1])) = true) (next : RunsTo Tryd.prog 6 (headOf Tryd.f6 0) (envAt Tryd.f6.ntmps (lcE c N (i + 1) hd w (bothR (B [i, 1]) c))) (Sx.look (XA t0 t1 t2 t3 t4 t5 t6 t7 t8 t9 t10 t11 t12 t13 t14 t15 N K M bl B ++ htE c hd w (bothR (B [i, 1]) c))) 110 YES (Sx.look []) 900) :
    RunsTo Tryd.prog 6 (headOf Tryd.f6 0) (envAt Tryd.f6.ntmps (lcE c N i hd w tl)) (Sx.look (XA t0 t1 t2 t3 t4 t5 t6 t7 t8 t9 t10 t11 t12 t13 t14 t15 N K M bl B ++ htE c hd w tl)) 110 YES (Sx.look []) 900 := by
  have h0 := hB 0 (by omega)
  have h1 := hB 1 (by omega)
  have g0 : s0 (bytesOf B [i] 0 (bl [i])) = B [i, 0] := by_get2 (by omega) h0
  have g1 : s1 (bytesOf B [i] 0 (bl [i])) = B [i, 1] := by_get2 (by omega) h1
  obtain ⟨r1, r2, r3⟩ := rp_ok (s := (bytesOf B [i] 0 (bl [i]))) (by rw [bl_len2]; exact hl) (by rw [g0]; exact hc) (by rw [g1]; exact hr)
  rw [g1] at r2 r3
  obtain ⟨e1, e2, e3⟩ := byte_eq h1.1 h1.2
  have hmk : maskR (B [i, 1]) = B [i, 1] := by simp [maskR, ha]
  rw [hr] at e2
  rw [ha] at e3
  have hr2 := hr
  rw [hmk] at hr2 e1 e2
  rw [ha] at r3
  rw [hmk] at r2
  obtain ⟨q1, q2', q3⟩ := both_eq c hr2
  refine runs_more baseA (More.of (k2Ok_p0 t0 t1 t2 t3 t4 t5 t6 t7 t8 t9 t10 t11 t12 t13 t14 t15 c N K M bl B i hd w tl) ⟨?oo, rfl, ?rr⟩) (by kernel_rfl) (by kernel_rfl) rfl (gtL (by decide)) (by decide) next
  case oo =>
    clear next
    refine (okc ?_ (okc ?_ (okc ?_ (okc ?_ (okc ?_ (okc ?_ (okc ?_ (okc ?_ (okc ?_ (okc ?_ (okc ?_ (okc ?_ (okc ?_ (okc ?_ (okc ?_ (okc ?_ (okc ?_ (okc ?_ (okc ?_ (okc ?_ (okc ?_ (okc ?_ (okc ?_ (okc ?_ (okc ?_ (okc ?_ (okc ?_ (okc ?_ (okc ?_ (okc ?_ (okc ?_ (okc ?_ (okc ?_ (okc ?_ (okc ?_ (okc ?_ (okc ?_ (okc ?_ (okc ?_ (okc ?_ okn))))))))))))))))))))))))))))))))))))))))
    all_goals ((try simp (disch := omega) only [SS, nmE, mf0, List.headD_cons, Go.Sx.sum, bl_len2, hk, q1, q2', r1, r2, r3, e1, e2, e3, ha]); first | done | omega | assumption | (simp (disch := omega) only [SS, nmE, mf0, List.headD_cons, Go.Sx.sum, bl_len2, hk, q1, q2', r1, r2, r3, e1, e2, e3, ha] at *; first | done | omega | assumption) | (simp_all; done) | grind)
  case rr =>
    clear next
    have hw : IntKind.i64.wrap ((i : Int) + 1) = ((i + 1 : Nat) : Int) := by rw [wr64 (by omega)]; rfl
    simp (disch := omega) only [SS, nmE, mf0, List.headD_cons, Go.Sx.sum, bl_len2, hk, q1, q2', r1, r2, r3, e1, e2, e3, ha, hw]
    repeat' apply And.intro
    all_goals first | trivial | rfl | omega | exact hw.symm | (intros; first | trivial | rfl | (simp_all; done)) | (simp_all; done)

theorem k1Form1_p0 (t0 t1 t2 t3 t4 t5 t6 t7 t8 t9 t10 t11 t12 t13 t14 t15 : List UInt8) (c : Int) (N : Nat) (K M : Ix → Int) (bl : Ix → Nat) (B : Ix → Int) (i : Nat) (hd : Int) (w : Bool) (tl : Int) :
    isMore (evTill Tryd.prog sumsA 400 (behind Tryd.f6 0) 900 6 (headOf Tryd.f6 0) (envAt Tryd.f6.ntmps (lcE c N i hd w tl)) (XA t0 t1 t2 t3 t4 t5 t6 t7 t8 t9 t10 t11 t12 t13 t14 t15 N K M bl B ++ htE c hd w tl) ⟨[.s true, .s true, .s true, .s true, .s false, .s true, .s true, .t, .s false, .s true, .s false, .s false, .s false, .s true, .s true, .s true, .s true, .s true, .s false, .s true, .s true, .s true, .s true, .s true, .t, .s true, .t, .s false, .s false, .s false, .s false, .s false], 130⟩) (moreP (headOf Tryd.f6 0) ([]) Tryd.f6.ntmps (lcE c N (i + 1) hd w tl) (htE c hd w tl) 900) =
    (OkL [(decide ((↑i : Int) < (↑N : Int)), true), (decide ((0 : Int) ≤ (↑i : Int) ∧ (↑i : Int) < (↑N : Int)), true), (((0 : Nat) + (↑i : Int).toNat).blt N, true), (((0 : Nat) + (↑i : Int).toNat).blt N, true), (decide ((↑(bl [(0 : Nat) + (↑i : Int).toNat]) : Int) > (20 : Int)), false), ((mf0 [(0 : Nat) + (↑i : Int).toNat]).blt N, true), (((0 : Nat) + bl [(0 : Nat) + (↑i : Int).toNat]).ble (bl [mf0 [(0 : Nat) + (↑i : Int).toNat]]), true), (K [(0 : Nat) + (↑i : Int).toNat] == (0 : Int), false), (K [(0 : Nat) + (↑i : Int).toNat] == (1 : Int), true), (rpB (bytesOf B [mf0 [(0 : Nat) + (↑i : Int).toNat]] (0 : Nat) (bl [(0 : Nat) + (↑i : Int).toNat])) == (0 : Int), false), (decide ((↑(bl [(0 : Nat) + (↑i : Int).toNat]) : Int) < (2 : Int)), false), (decide ((↑(bl [(0 : Nat) + (↑i : Int).toNat]) : Int) > (2 : Int)), false), (decide ((0 : Int) ≤ (0 : Int) ∧ (0 : Int) < (↑(bl [(0 : Nat) + (↑i : Int).toNat]) : Int)), true), ((mf0 [(0 : Nat) + (↑i : Int).toNat]).blt N, true), (Nat.blt (0 : Nat) (bl [mf0 [(0 : Nat) + (↑i : Int).toNat]]), true), ((mf0 [(0 : Nat) + (↑i : Int).toNat]).blt N, true), (Nat.blt (0 : Nat) (bl [mf0 [(0 : Nat) + (↑i : Int).toNat]]), true), (B [mf0 [(0 : Nat) + (↑i : Int).toNat], (0 : Nat)] != (1 : Int), false), (decide ((0 : Int) ≤ (1 : Int) ∧ (1 : Int) < (↑(bl [(0 : Nat) + (↑i : Int).toNat]) : Int)), true), ((mf0 [(0 : Nat) + (↑i : Int).toNat]).blt N, true), (Nat.blt (1 : Nat) (bl [mf0 [(0 : Nat) + (↑i : Int).toNat]]), true), ((mf0 [(0 : Nat) + (↑i : Int).toNat]).blt N, true), (Nat.blt (1 : Nat) (bl [mf0 [(0 : Nat) + (↑i : Int).toNat]]), true), (!rightC (iandn IntKind.i64 (IntKind.i64.wrap (B [mf0 [(0 : Nat) + (↑i : Int).toNat], (1 : Nat)])) (4 : Int)), true), (numOf (25 : Nat) != rpB (bytesOf B [mf0 [(0 : Nat) + (↑i : Int).toNat]] (0 : Nat) (bl [(0 : Nat) + (↑i : Int).toNat])), false), (rpB (bytesOf B [mf0 [(0 : Nat) + (↑i : Int).toNat]] (0 : Nat) (bl [(0 : Nat) + (↑i : Int).toNat])) == (0 : Int), false), (hd != hd, false), (!w == w, false), (tl != tl, false)] ∧ headOf Tryd.f6 (0 : Nat) = headOf Tryd.f6 (0 : Nat) ∧ (c = c ∧ (0 : Nat) = (0 : Nat) ∧ (0 : Nat) = (0 : Nat) ∧ hd = hd ∧ w = w ∧ tl = tl ∧ ((0 : Nat) = (0 : Nat) ∧ N = N) ∧ (↑N : Int) = (↑N : Int) ∧ (↑(i + (1 : Nat)) : Int) = IntKind.i64.wrap ((↑i : Int) + (1 : Int))) ∧ (hd = hd ∧ w = w) ∧ tl = tl ∧ iand IntKind.i64 c (27 : Int) = iand IntKind.i64 c (27 : Int)) := by kernel_rfl

set_option maxHeartbeats 4000000 in
theorem k1Form1 (t0 t1 t2 t3 t4 t5 t6 t7 t8 t9 t10 t11 t12 t13 t14 t15 : List UInt8) (c : Int) (N : Nat) (K M : Ix → Int) (bl : Ix → Nat) (B : Ix → Int) (i : Nat) (hd : Int) (w : Bool) (tl : Int) (hi : i < N) (hN : N ≤ 60) (hb : bl [i] ≤ 20) (hB : ∀ j, j < bl [i] → 0 ≤ B [i, j] ∧ B [i, j] < 256) (hM : -9223372036854775808 ≤ M [i] ∧ M [i] < 9223372036854775808) (hk : K [i] = 1) (hl : bl [i] = 2) (hc : B [i, 0] = 1) (ha : ackR (B [i, 1]) = true) (hr : rightR (maskR (B [i, 1])) = false) (next : RunsTo Tryd.prog 6 (headOf Tryd.f6 0) (envAt Tryd.f6.ntmps (lcE c N (i + 1) hd w tl)) (Sx.look (XA t0 t1 t2 t3 t4 t5 t6 t7 t8 t9 t10 t11 t12 t13 t14 t15 N K M bl B ++ htE c hd w tl)) 110 YES (Sx.look []) 900) :
    RunsTo Tryd.prog 6 (headOf Tryd.f6 0) (envAt Tryd.f6.ntmps (lcE c N i hd w tl)) (Sx.look (XA t0 t1 t2 t3 t4 t5 t6 t7 t8 t9 t10 t11 t12 t13 t14 t15 N K M bl B ++ htE c hd w tl)) 110 YES (Sx.look []) 900 := by
  have h0 := hB 0 (by omega)
  have h1 := hB 1 (by omega)
  have g0 : s0 (bytesOf B [i] 0 (bl [i])) = B [i, 0] := by_get2 (by omega) h0
  have g1 : s1 (bytesOf B [i] 0 (bl [i])) = B [i, 1] := by_get2 (by omega) h1
  obtain ⟨r1, r2, r3⟩ := rp_form (s := (bytesOf B [i] 0 (bl [i]))) (by rw [bl_len2]; exact hl) (by rw [g0]; exact hc) (by rw [g1]; exact hr)
  obtain ⟨e1, e2, e3⟩ := byte_eq h1.1 h1.2
  have hmk : maskR (B [i, 1]) = B [i, 1] - 4 := by simp [maskR, ha]
  rw [hr] at e2
  rw [ha] at e3
  have hr2 := hr
  rw [hmk] at hr2 e1 e2
  refine runs_more baseA (More.of (k1Form1_p0 t0 t1 t2 t3 t4 t5 t6 t7 t8 t9 t10 t11 t12 t13 t14 t15 c N K M bl B i hd w tl) ⟨?oo, rfl, ?rr⟩) (by kernel_rfl) (by kernel_rfl) rfl (gtL (by decide)) (by decide) next
  case oo =>
    clear next
    refine (okc ?_ (okc ?_ (okc ?_ (okc ?_ (okc ?_ (okc ?_ (okc ?_ (okc ?_ (okc ?_ (okc ?_ (okc ?_ (okc ?_ (okc ?_ (okc ?_ (okc ?_ (okc ?_ (okc ?_ (okc ?_ (okc ?_ (okc ?_ (okc ?_ (okc ?_ (okc ?_ (okc ?_ (okc ?_ (okc ?_ (okc ?_ (okc ?_ (okc ?_ okn)))))))))))))))))))))))))))))
    all_goals ((try simp (disch := omega) only [SS, nmE, mf0, List.headD_cons, Go.Sx.sum, bl_len2, hk, r1, r2, r3, e1, e2, e3, ha]); first | done | omega | assumption | (simp (disch := omega) only [SS, nmE, mf0, List.headD_cons, Go.Sx.sum, bl_len2, hk, r1, r2, r3, e1, e2, e3, ha] at *; first | done | omega | assumption) | (simp_all; done) | grind)
  case rr =>
    clear next
    have hw : IntKind.i64.wrap ((i : Int) + 1) = ((i + 1 : Nat) : Int) := by rw [wr64 (by omega)]; rfl
    simp (disch := omega) only [SS, nmE, mf0, List.headD_cons, Go.Sx.sum, bl_len2, hk, r1, r2, r3, e1, e2, e3, ha, hw]
    repeat' apply And.intro
    all_goals first | trivial | rfl | omega | exact hw.symm | (intros; first | trivial | rfl | (simp_all; done)) | (simp_all; done)

theorem k2Form1_p0 (t0 t1 t2 t3 t4 t5 t6 t7 t8 t9 t10 t11 t12 t13 t14 t15 : List UInt8) (c : Int) (N : Nat) (K M : Ix → Int) (bl : Ix → Nat) (B : Ix → Int) (i : Nat) (hd : Int) (w : Bool) (tl : Int) :
    isMore (evTill Tryd.prog sumsA 400 (behind Tryd.f6 0) 900 6 (headOf Tryd.f6 0) (envAt Tryd.f6.ntmps (lcE c N i hd w tl)) (XA t0 t1 t2 t3 t4 t5 t6 t7 t8 t9 t10 t11 t12 t13 t14 t15 N K M bl B ++ htE c hd w tl) ⟨[.s true, .s true, .s true, .s true, .s false, .s true, .s true, .t, .s false, .s false, .s true, .s false, .s false, .s false, .s true, .s true, .s true, .s true, .s true, .s false, .s true, .s true, .s true, .s true, .s true, .t, .s true, .t, .s false, .s false, .s false, .s true, .f, .s false, .s false, .s false], 130⟩) (moreP (headOf Tryd.f6 0) ([]) Tryd.f6.ntmps (lcE c N (i + 1) hd w tl) (htE c hd w tl) 900) =
    (OkL [(decide ((↑i : Int) < (↑N : Int)), true), (decide ((0 : Int) ≤ (↑i : Int) ∧ (↑i : Int) < (↑N : Int)), true), (((0 : Nat) + (↑i : Int).toNat).blt N, true), (((0 : Nat) + (↑i : Int).toNat).blt N, true), (decide ((↑(bl [(0 : Nat) + (↑i : Int).toNat]) : Int) > (20 : Int)), false), ((mf0 [(0 : Nat) + (↑i : Int).toNat]).blt N, true), (((0 : Nat) + bl [(0 : Nat) + (↑i : Int).toNat]).ble (bl [mf0 [(0 : Nat) + (↑i : Int).toNat]]), true), (K [(0 : Nat) + (↑i : Int).toNat] == (0 : Int), false), (K [(0 : Nat) + (↑i : Int).toNat] == (1 : Int), false), (K [(0 : Nat) + (↑i : Int).toNat] == (2 : Int), true), (rpB (bytesOf B [mf0 [(0 : Nat) + (↑i : Int).toNat]] (0 : Nat) (bl [(0 : Nat) + (↑i : Int).toNat])) == (0 : Int), false), (decide ((↑(bl [(0 : Nat) + (↑i : Int).toNat]) : Int) < (2 : Int)), false), (decide ((↑(bl [(0 : Nat) + (↑i : Int).toNat]) : Int) > (2 : Int)), false), (decide ((0 : Int) ≤ (0 : Int) ∧ (0 : Int) < (↑(bl [(0 : Nat) + (↑i : Int).toNat]) : Int)), true), ((mf0 [(0 : Nat) + (↑i : Int).toNat]).blt N, true), (Nat.blt (0 : Nat) (bl [mf0 [(0 : Nat) + (↑i : Int).toNat]]), true), ((mf0 [(0 : Nat) + (↑i : Int).toNat]).blt N, true), (Nat.blt (0 : Nat) (bl [mf0 [(0 : Nat) + (↑i : Int).toNat]]), true), (B [mf0 [(0 : Nat) + (↑i : Int).toNat], (0 : Nat)] != (1 : Int), false), (decide ((0 : Int) ≤ (1 : Int) ∧ (1 : Int) < (↑(bl [(0 : Nat) + (↑i : Int).toNat]) : Int)), true), ((mf0 [(0 : Nat) + (↑i : Int).toNat]).blt N, true), (Nat.blt (1 : Nat) (bl [mf0 [(0 : Nat) + (↑i : Int).toNat]]), true), ((mf0 [(0 : Nat) + (↑i : Int).toNat]).blt N, true), (Nat.blt (1 : Nat) (bl [mf0 [(0 : Nat) + (↑i : Int).toNat]]), true), (!rightC (iandn IntKind.i64 (IntKind.i64.wrap (B [mf0 [(0 : Nat) + (↑i : Int).toNat], (1 : Nat)])) (4 : Int)), true), (rpB (bytesOf B [mf0 [(0 : Nat) + (↑i : Int).toNat]] (0 : Nat) (bl [(0 : Nat) + (↑i : Int).toNat])) == (0 : Int), false), (numOf (25 : Nat) != rpB (bytesOf B [mf0 [(0 : Nat) + (↑i : Int).toNat]] (0 : Nat) (bl [(0 : Nat) + (↑i : Int).toNat])), false), (rpB (bytesOf B [mf0 [(0 : Nat) + (↑i : Int).toNat]] (0 : Nat) (bl [(0 : Nat) + (↑i : Int).toNat])) == (0 : Int), false), (rpB (bytesOf B [mf0 [(0 : Nat) + (↑i : Int).toNat]] (0 : Nat) (bl [(0 : Nat) + (↑i : Int).toNat])) != (0 : Int), true), (hd != hd, false), (!w == w, false), (tl != tl, false)] ∧ headOf Tryd.f6 (0 : Nat) = headOf Tryd.f6 (0 : Nat) ∧ (c = c ∧ (0 : Nat) = (0 : Nat) ∧ (0 : Nat) = (0 : Nat) ∧ hd = hd ∧ w = w ∧ tl = tl ∧ ((0 : Nat) = (0 : Nat) ∧ N = N) ∧ (↑N : Int) = (↑N : Int) ∧ (↑(i + (1 : Nat)) : Int) = IntKind.i64.wrap ((↑i : Int) + (1 : Int))) ∧ (hd = hd ∧ w = w) ∧ tl = tl ∧ iand IntKind.i64 c (27 : Int) = iand IntKind.i64 c (27 : Int)) := by kernel_rfl

set_option maxHeartbeats 4000000 in
theorem k2Form1 (t0 t1 t2 t3 t4 t5 t6 t7 t8 t9 t10 t11 t12 t13 t14 t15 : List UInt8) (c : Int) (N : Nat) (K M : Ix → Int) (bl : Ix → Nat) (B : Ix → Int) (i : Nat) (hd : Int) (w : Bool) (tl : Int) (hi : i < N) (hN : N ≤ 60) (hb : bl [i] ≤ 20) (hB : ∀ j, j < bl [i] → 0 ≤ B [i, j] ∧ B [i, j] < 256) (hM : -9223372036854775808 ≤ M [i] ∧ M [i] < 9223372036854775808) (hk : K [i] = 2) (hl : bl [i] = 2) (hc : B [i, 0] = 1) (ha : ackR (B [i, 1]) = true) (hr : rightR (maskR (B [i, 1])) = false) (next : RunsTo Tryd.prog 6 (headOf Tryd.f6 0) (envAt Tryd.f6.ntmps (lcE c N (i + 1) hd w tl)) (Sx.look (XA t0 t1 t2 t3 t4 t5 t6 t7 t8 t9 t10 t11 t12 t13 t14 t15 N K M bl B ++ htE c hd w tl)) 110 YES (Sx.look []) 900) :
    RunsTo Tryd.prog 6 (headOf Tryd.f6 0) (envAt Tryd.f6.ntmps (lcE c N i hd w tl)) (Sx.look (XA t0 t1 t2 t3 t4 t5 t6 t7 t8 t9 t10 t11 t12 t13 t14 t15 N K M bl B ++ htE c hd w tl)) 110 YES (Sx.look []) 900 := by
  have h0 := hB 0 (by omega)
  have h1 := hB 1 (by omega)
  have g0 : s0 (bytesOf B [i] 0 (bl [i])) = B [i, 0] := by_get2 (by omega) h0
  have g1 : s1 (bytesOf B [i] 0 (bl [i])) = B [i, 1] := by_get2 (by omega) h1
  obtain ⟨r1, r2, r3⟩ := rp_form (s := (bytesOf B [i] 0 (bl [i]))) (by rw [bl_len2]; exact hl) (by rw [g0]; exact hc) (by rw [g1]; exact hr)
  obtain ⟨e1, e2, e3⟩ := byte_eq h1.1 h1.2
  have hmk : maskR (B [i, 1]) = B [i, 1] - 4 := by simp [maskR, ha]
  rw [hr] at e2
  rw [ha] at e3
  have hr2 := hr
  rw [hmk] at hr2 e1 e2
  refine runs_more baseA (More.of (k2Form1_p0 t0 t1 t2 t3 t4 t5 t6 t7 t8 t9 t10 t11 t12 t13 t14 t15 c N K M bl B i hd w tl) ⟨?oo, rfl, ?rr⟩) (by kernel_rfl) (by kernel_rfl) rfl (gtL (by decide)) (by decide) next
  case oo =>
    clear next
    refine (okc ?_ (okc ?_ (okc ?_ (okc ?_ (okc ?_ (okc ?_ (okc ?_ (okc ?_ (okc ?_ (okc ?_ (okc ?_ (okc ?_ (okc ?_ (okc ?_ (okc ?_ (okc ?_ (okc ?_ (okc ?_ (okc ?_ (okc ?_ (okc ?_ (okc ?_ (okc ?_ (okc ?_ (okc ?_ (okc ?_ (okc ?_ (okc ?_ (okc ?_ (okc ?_ (okc ?_ (okc ?_ okn))))))))))))))))))))))))))))))))
    all_goals ((try simp (disch := omega) only [SS, nmE, mf0, List.headD_cons, Go.Sx.sum, bl_len2, hk, r1, r2, r3, e1, e2, e3, ha]); first | done | omega | assumption | (simp (disch := omega) only [SS, nmE, mf0, List.headD_cons, Go.Sx.sum, bl_len2, hk, r1, r2, r3, e1, e2, e3, ha] at *; first | done | omega | assumption) | (simp_all; done) | grind)
  case rr =>
    clear next
    have hw : IntKind.i64.wrap ((i : Int) + 1) = ((i + 1 : Nat) : Int) := by rw [wr64 (by omega)]; rfl
    simp (disch := omega) only [SS, nmE, mf0, List.headD_cons, Go.Sx.sum, bl_len2, hk, r1, r2, r3, e1, e2, e3, ha, hw]
    repeat' apply And.intro
    all_goals first | trivial | rfl | omega | exact hw.symm | (intros; first | trivial | rfl | (simp_all; done)) | (simp_all; done)

theorem k1Idle_p0 (t0 t1 t2 t3 t4 t5 t6 t7 t8 t9 t10 t11 t12 t13 t14 t15 : List UInt8) (c : Int) (N : Nat) (K M : Ix → Int) (bl : Ix → Nat) (B : Ix → Int) (i : Nat) (hd : Int) (w : Bool) (tl : Int) :
    isMore (evTill Tryd.prog sumsA 400 (behind Tryd.f6 0) 900 6 (headOf Tryd.f6 0) (envAt Tryd.f6.ntmps (lcE c N i hd w tl)) (XA t0 t1 t2 t3 t4 t5 t6 t7 t8 t9 t10 t11 t12 t13 t14 t15 N K M bl B ++ htE c hd w tl) ⟨[.s true, .s true, .s true, .s true, .s false, .s true, .s true, .t, .s false, .s true, .s true, .s false, .s true, .s false, .s false, .s true, .s true, .s true, .s true, .s true, .s false, .s true, .s true, .s true, .s true, .s true, .t, .s false, .s true, .s true, .s true, .s true, .s true, .f, .s false, .s true, .f, .f, .s false, .s false, .s false], 130⟩) (moreP (headOf Tryd.f6 0) ([]) Tryd.f6.ntmps (lcE c N (i + 1) hd w tl) (htE c hd w tl) 900) =
    (OkL [(decide ((↑i : Int) < (↑N : Int)), true), (decide ((0 : Int) ≤ (↑i : Int) ∧ (↑i : Int) < (↑N : Int)), true), (((0 : Nat) + (↑i : Int).toNat).blt N, true), (((0 : Nat) + (↑i : Int).toNat).blt N, true), (decide ((↑(bl [(0 : Nat) + (↑i : Int).toNat]) : Int) > (20 : Int)), false), ((mf0 [(0 : Nat) + (↑i : Int).toNat]).blt N, true), (((0 : Nat) + bl [(0 : Nat) + (↑i : Int).toNat]).ble (bl [mf0 [(0 : Nat) + (↑i : Int).toNat]]), true), (K [(0 : Nat) + (↑i : Int).toNat] == (0 : Int), false), (K [(0 : Nat) + (↑i : Int).toNat] == (1 : Int), true), (rpB (bytesOf B [mf0 [(0 : Nat) + (↑i : Int).toNat]] (0 : Nat) (bl [(0 : Nat) + (↑i : Int).toNat])) == (0 : Int), true), (!rpA (bytesOf B [mf0 [(0 : Nat) + (↑i : Int).toNat]] (0 : Nat) (bl [(0 : Nat) + (↑i : Int).toNat])), false), (!w, true), (decide ((↑(bl [(0 : Nat) + (↑i : Int).toNat]) : Int) < (2 : Int)), false), (decide ((↑(bl [(0 : Nat) + (↑i : Int).toNat]) : Int) > (2 : Int)), false), (decide ((0 : Int) ≤ (0 : Int) ∧ (0 : Int) < (↑(bl [(0 : Nat) + (↑i : Int).toNat]) : Int)), true), ((mf0 [(0 : Nat) + (↑i : Int).toNat]).blt N, true), (Nat.blt (0 : Nat) (bl [mf0 [(0 : Nat) + (↑i : Int).toNat]]), true), ((mf0 [(0 : Nat) + (↑i : Int).toNat]).blt N, true), (Nat.blt (0 : Nat) (bl [mf0 [(0 : Nat) + (↑i : Int).toNat]]), true), (B [mf0 [(0 : Nat) + (↑i : Int).toNat], (0 : Nat)] != (1 : Int), false), (decide ((0 : Int) ≤ (1 : Int) ∧ (1 : Int) < (↑(bl [(0 : Nat) + (↑i : Int).toNat]) : Int)), true), ((mf0 [(0 : Nat) + (↑i : Int).toNat]).blt N, true), (Nat.blt (1 : Nat) (bl [mf0 [(0 : Nat) + (↑i : Int).toNat]]), true), ((mf0 [(0 : Nat) + (↑i : Int).toNat]).blt N, true), (Nat.blt (1 : Nat) (bl [mf0 [(0 : Nat) + (↑i : Int).toNat]]), true), (!rightC (iandn IntKind.i64 (IntKind.i64.wrap (B [mf0 [(0 : Nat) + (↑i : Int).toNat], (1 : Nat)])) (4 : Int)), false), (decide ((0 : Int) ≤ (1 : Int) ∧ (1 : Int) < (↑(bl [(0 : Nat) + (↑i : Int).toNat]) : Int)), true), ((mf0 [(0 : Nat) + (↑i : Int).toNat]).blt N, true), (Nat.blt (1 : Nat) (bl [mf0 [(0 : Nat) + (↑i : Int).toNat]]), true), ((mf0 [(0 : Nat) + (↑i : Int).toNat]).blt N, true), (Nat.blt (1 : Nat) (bl [mf0 [(0 : Nat) + (↑i : Int).toNat]]), true), (!iand IntKind.u8 (B [mf0 [(0 : Nat) + (↑i : Int).toNat], (1 : Nat)]) (4 : Int) != (0 : Int), false), (!w, true), (hd != hd, false), (!w == w, false), (tl != tl, false)] ∧ headOf Tryd.f6 (0 : Nat) = headOf Tryd.f6 (0 : Nat) ∧ (c = c ∧ (0 : Nat) = (0 : Nat) ∧ (0 : Nat) = (0 : Nat) ∧ hd = hd ∧ w = w ∧ tl = tl ∧ ((0 : Nat) = (0 : Nat) ∧ N = N) ∧ (↑N : Int) = (↑N : Int) ∧ (↑(i + (1 : Nat)) : Int) = IntKind.i64.wrap ((↑i : Int) + (1 : Int))) ∧ (hd = hd ∧ w = w) ∧ tl = tl ∧ iand IntKind.i64 c (27 : Int) = iand IntKind.i64 c (27 : Int)) := by kernel_rfl

set_option maxHeartbeats 4000000 in
theorem k1Idle (t0 t1 t2 t3 t4 t5 t6 t7 t8 t9 t10 t11 t12 t13 t14 t15 : List UInt8) (c : Int) (N : Nat) (K M : Ix → Int) (bl : Ix → Nat) (B : Ix → Int) (i : Nat) (hd : Int) (w : Bool) (tl : Int) (hi : i < N) (hN : N ≤ 60) (hb : bl [i] ≤ 20) (hB : ∀ j, j < bl [i] → 0 ≤ B [i, j] ∧ B [i, j] < 256) (hM : -9223372036854775808 ≤ M [i] ∧ M [i] < 9223372036854775808) (hk : K [i] = 1) (hw2 : w = false) (hl : bl [i] = 2) (hc : B [i, 0] = 1) (ha : ackR (B [i, 1]) = true) (hr : rightR (maskR (B [i, 1])) = true) (next : RunsTo Tryd.prog 6 (headOf Tryd.f6 0) (envAt Tryd.f6.ntmps (lcE c N (i + 1) hd w tl)) (Sx.look (XA t0 t1 t2 t3 t4 t5 t6 t7 t8 t9 t10 t11 t12 t13 t14 t15 N K M bl B ++ htE c hd w tl)) 110 YES (Sx.look []) 900) :
    RunsTo Tryd.prog 6 (headOf Tryd.f6 0) (envAt Tryd.f6.ntmps (lcE c N i hd w tl)) (Sx.look (XA t0 t1 t2 t3 t4 t5 t6 t7 t8 t9 t10 t11 t12 t13 t14 t15 N K M bl B ++ htE c hd w tl)) 110 YES (Sx.look []) 900 := by
  have h0 := hB 0 (by omega)
  have h1 := hB 1 (by omega)
  have g0 : s0 (bytesOf B [i] 0 (bl [i])) = B [i, 0] := by_get2 (by omega) h0
  have g1 : s1 (bytesOf B [i] 0 (bl [i])) = B [i, 1] := by_get2 (by omega) h1
  obtain ⟨r1, r2, r3⟩ := rp_ok (s := (bytesOf B [i] 0 (bl [i]))) (by rw [bl_len2]; exact hl) (by rw [g0]; exact hc) (by rw [g1]; exact hr)
  rw [g1] at r2 r3
  obtain ⟨e1, e2, e3⟩ := byte_eq h1.1 h1.2
  have hmk : maskR (B [i, 1]) = B [i, 1] - 4 := by simp [maskR, ha]
  rw [hr] at e2
  rw [ha] at e3
  have hr2 := hr
  rw [hmk] at hr2 e1 e2
  rw [ha] at r3
  rw [hmk] at r2
  refine runs_more baseA (More.of (k1Idle_p0 t0 t1 t2 t3 t4 t5 t6 t7 t8 t9 t10 t11 t12 t13 t14 t15 c N K M bl B i hd w tl) ⟨?oo, rfl, ?rr⟩) (by kernel_rfl) (by kernel_rfl) rfl (gtL (by decide)) (by decide) next
  case oo =>
    clear next
    refine (okc ?_ (okc ?_ (okc ?_ (okc ?_ (okc ?_ (okc ?_ (okc ?_ (okc ?_ (okc ?_ (okc ?_ (okc ?_ (okc ?_ (okc ?_ (okc ?_ (okc ?_ (okc ?_ (okc ?_ (okc ?_ (okc ?_ (okc ?_ (okc ?_ (okc ?_ (okc ?_ (okc ?_ (okc ?_ (okc ?_ (okc ?_ (okc ?_ (okc ?_ (okc ?_ (okc ?_ (okc ?_ (okc ?_ (okc ?_ (okc ?_ (okc ?_ okn))))))))))))))))))))))))))))))))))))
    all_goals ((try simp (disch := omega) only [SS, nmE, mf0, List.headD_cons, Go.Sx.sum, bl_len2, hk, hw2, r1, r2, r3, e1, e2, e3, ha]); first | done | omega | assumption | (simp (disch := omega) only [SS, nmE, mf0, List.headD_cons, Go.Sx.sum, bl_len2, hk, hw2, r1, r2, r3, e1, e2, e3, ha] at *; first | done | omega | assumption) | (simp_all; done) | grind)
  case rr =>
    clear next
    have hw : IntKind.i64.wrap ((i : Int) + 1) = ((i + 1 : Nat) : Int) := by rw [wr64 (by omega)]; rfl
    simp (disch := omega) only [SS, nmE, mf0, List.headD_cons, Go.Sx.sum, bl_len2, hk, hw2, r1, r2, r3, e1, e2, e3, ha, hw]
    repeat' apply And.intro
    all_goals first | trivial | rfl | omega | exact hw.symm | (intros; first | trivial | rfl | (simp_all; done)) | (simp_all; done)

theorem k1Ok_p0 (t0 t1 t2 t3 t4 t5 t6 t7 t8 t9 t10 t11 t12 t13 t14 t15 : List UInt8) (c : Int) (N : Nat) (K M : Ix → Int) (bl : Ix → Nat) (B : Ix → Int) (i : Nat) (hd : Int) (w : Bool) (tl : Int) :
    isMore (evTill Tryd.prog sumsA 400 (behind Tryd.f6 0) 900 6 (headOf Tryd.f6 0) (envAt Tryd.f6.ntmps (lcE c N i hd w tl)) (XA t0 t1 t2 t3 t4 t5 t6 t7 t8 t9 t10 t11 t12 t13 t14 t15 N K M bl B ++ htE c hd w tl) ⟨[.s true, .s true, .s true, .s true, .s false, .s true, .s true, .t, .s false, .s true, .s true, .s false, .s false, .s false, .s false, .s true, .s true, .s true, .s true, .s true, .s false, .s true, .s true, .s true, .s true, .s true, .t, .s false, .s true, .s true, .s true, .s true, .s true, .f, .s false, .s false, .s false, .s true, .s false, .f, .s false], 130⟩) (moreP (headOf Tryd.f6 0) ([]) Tryd.f6.ntmps (lcE c N (i + 1) (B [i, 1] - 4) false tl) (htE c (B [i, 1] - 4) false tl) 900) =
    (OkL [(decide ((↑i : Int) < (↑N : Int)), true), (decide ((0 : Int) ≤ (↑i : Int) ∧ (↑i : Int) < (↑N : Int)), true), (((0 : Nat) + (↑i : Int).toNat).blt N, true), (((0 : Nat) + (↑i : Int).toNat).blt N, true), (decide ((↑(bl [(0 : Nat) + (↑i : Int).toNat]) : Int) > (20 : Int)), false), ((mf0 [(0 : Nat) + (↑i : Int).toNat]).blt N, true), (((0 : Nat) + bl [(0 : Nat) + (↑i : Int).toNat]).ble (bl [mf0 [(0 : Nat) + (↑i : Int).toNat]]), true), (K [(0 : Nat) + (↑i : Int).toNat] == (0 : Int), false), (K [(0 : Nat) + (↑i : Int).toNat] == (1 : Int), true), (rpB (bytesOf B [mf0 [(0 : Nat) + (↑i : Int).toNat]] (0 : Nat) (bl [(0 : Nat) + (↑i : Int).toNat])) == (0 : Int), true), (!rpA (bytesOf B [mf0 [(0 : Nat) + (↑i : Int).toNat]] (0 : Nat) (bl [(0 : Nat) + (↑i : Int).toNat])), false), (!w, false), (decide ((↑(bl [(0 : Nat) + (↑i : Int).toNat]) : Int) < (2 : Int)), false), (decide ((↑(bl [(0 : Nat) + (↑i : Int).toNat]) : Int) > (2 : Int)), false), (decide ((0 : Int) ≤ (0 : Int) ∧ (0 : Int) < (↑(bl [(0 : Nat) + (↑i : Int).toNat]) : Int)), true), ((mf0 [(0 : Nat) + (↑i : Int).toNat]).blt N, true), (Nat.blt (0 : Nat) (bl [mf0 [(0 : Nat) + (↑i : Int).toNat]]), true), ((mf0 [(0 : Nat) + (↑i : Int).toNat]).blt N, true), (Nat.blt (0 : Nat) (bl [mf0 [(0 : Nat) + (↑i : Int).toNat]]), true), (B [mf0 [(0 : Nat) + (↑i : Int).toNat], (0 : Nat)] != (1 : Int), false), (decide ((0 : Int) ≤ (1 : Int) ∧ (1 : Int) < (↑(bl [(0 : Nat) + (↑i : Int).toNat]) : Int)), true), ((mf0 [(0 : Nat) + (↑i : Int).toNat]).blt N, true), (Nat.blt (1 : Nat) (bl [mf0 [(0 : Nat) + (↑i : Int).toNat]]), true), ((mf0 [(0 : Nat) + (↑i : Int).toNat]).blt N, true), (Nat.blt (1 : Nat) (bl [mf0 [(0 : Nat) + (↑i : Int).toNat]]), true), (!rightC (iandn IntKind.i64 (IntKind.i64.wrap (B [mf0 [(0 : Nat) + (↑i : Int).toNat], (1 : Nat)])) (4 : Int)), false), (decide ((0 : Int) ≤ (1 : Int) ∧ (1 : Int) < (↑(bl [(0 : Nat) + (↑i : Int).toNat]) : Int)), true), ((mf0 [(0 : Nat) + (↑i : Int).toNat]).blt N, true), (Nat.blt (1 : Nat) (bl [mf0 [(0 : Nat) + (↑i : Int).toNat]]), true), ((mf0 [(0 : Nat) + (↑i : Int).toNat]).blt N, true), (Nat.blt (1 : Nat) (bl [mf0 [(0 : Nat) + (↑i : Int).toNat]]), true), (!iand IntKind.u8 (B [mf0 [(0 : Nat) + (↑i : Int).toNat], (1 : Nat)]) (4 : Int) != (0 : Int), false), (!w, false), ((0 : Int) != rpB (bytesOf B [mf0 [(0 : Nat) + (↑i : Int).toNat]] (0 : Nat) (bl [(0 : Nat) + (↑i : Int).toNat])), false), (rpB (bytesOf B [mf0 [(0 : Nat) + (↑i : Int).toNat]] (0 : Nat) (bl [(0 : Nat) + (↑i : Int).toNat])) == (0 : Int), true), (iandn IntKind.i64 (IntKind.i64.wrap (B [mf0 [(0 : Nat) + (↑i : Int).toNat], (1 : Nat)])) (4 : Int) != rpN (bytesOf B [mf0 [(0 : Nat) + (↑i : Int).toNat]] (0 : Nat) (bl [(0 : Nat) + (↑i : Int).toNat])), false), (tl != tl, false)] ∧ headOf Tryd.f6 (0 : Nat) = headOf Tryd.f6 (0 : Nat) ∧ (c = c ∧ (0 : Nat) = (0 : Nat) ∧ (0 : Nat) = (0 : Nat) ∧ B [i, (1 : Nat)] - (4 : Int) = rpN (bytesOf B [mf0 [(0 : Nat) + (↑i : Int).toNat]] (0 : Nat) (bl [(0 : Nat) + (↑i : Int).toNat])) ∧ false = false ∧ tl = tl ∧ ((0 : Nat) = (0 : Nat) ∧ N = N) ∧ (↑N : Int) = (↑N : Int) ∧ (↑(i + (1 : Nat)) : Int) = IntKind.i64.wrap ((↑i : Int) + (1 : Int))) ∧ (B [i, (1 : Nat)] - (4 : Int) = iandn IntKind.i64 (IntKind.i64.wrap (B [mf0 [(0 : Nat) + (↑i : Int).toNat], (1 : Nat)])) (4 : Int) ∧ false = false) ∧ tl = tl ∧ iand IntKind.i64 c (27 : Int) = iand IntKind.i64 c (27 : Int)) := by kernel_rfl

set_option maxHeartbeats 4000000 in
theorem k1Ok (t0 t1 t2 t3 t4 t5 t6 t7 t8 t9 t10 t11 t12 t13 t14 t15 : List UInt8) (c : Int) (N : Nat) (K M : Ix → Int) (bl : Ix → Nat) (B : Ix → Int) (i : Nat) (hd : Int) (w : Bool) (tl : Int) (hi : i < N) (hN : N ≤ 60) (hb : bl [i] ≤ 20) (hB : ∀ j, j < bl [i] → 0 ≤ B [i, j] ∧ B [i, j] < 256) (hM : -9223372036854775808 ≤ M [i] ∧ M [i] < 9223372036854775808) (hk : K [i] = 1) (hw2 : w = true) (hl : bl [i] = 2) (hc : B [i, 0] = 1) (ha : ackR (B [i, 1]) = true) (hr : rightR (maskR (B [i, 1])) = true) (next : RunsTo Tryd.prog 6 (headOf Tryd.f6 0) (envAt Tryd.f6.ntmps (lcE c N (i + 1) (B [i, 1] - 4) false tl)) (Sx.look (XA t0 t1 t2 t3 t4 t5 t6 t7 t8 t9 t10 t11 t12 t13 t14 t15 N K M bl B ++ htE c (B [i, 1] - 4) false tl)) 110 YES (Sx.look []) 900) :
    RunsTo Tryd.prog 6 (headOf Tryd.f6 0) (envAt Tryd.f6.ntmps (lcE c N i hd w tl)) (Sx.look (XA t0 t1 t2 t3 t4 t5 t6 t7 t8 t9 t10 t11 t12 t13 t14 t15 N K M bl B ++ htE c hd w tl)) 110 YES (Sx.look []) 900 := by
  have h0 := hB 0 (by omega)
  have h1 := hB 1 (by omega)
  have g0 : s0 (bytesOf B [i] 0 (bl [i])) = B [i, 0] := by_get2 (by omega) h0
  have g1 : s1 (bytesOf B [i] 0 (bl [i])) = B [i, 1] := by_get2 (by omega) h1
  obtain ⟨r1, r2, r3⟩ := rp_ok (s := (bytesOf B [i] 0 (bl [i]))) (by rw [bl_len2]; exact hl) (by rw [g0]; exact hc) (by rw [g1]; exact hr)
  rw [g1] at r2 r3
  obtain ⟨e1, e2, e3⟩ := byte_eq h1.1 h1.2
  have hmk : maskR (B [i, 1]) = B [i, 1] - 4 := by simp [maskR, ha]
  rw [hr] at e2
  rw [ha] at e3
  have hr2 := hr
  rw [hmk] at hr2 e1 e2
  rw [ha] at r3
  rw [hmk] at r2
  refine runs_more baseA (More.of (k1Ok_p0 t0 t1 t2 t3 t4 t5 t6 t7 t8 t9 t10 t11 t12 t13 t14 t15 c N K M bl B i hd w tl) ⟨?oo, rfl, ?rr⟩) (by kernel_rfl) (by kernel_rfl) rfl (gtL (by decide)) (by decide) next
  case oo =>
    clear next
    refine (okc ?_ (okc ?_ (okc ?_ (okc ?_ (okc ?_ (okc ?_ (okc ?_ (okc ?_ (okc ?_ (okc ?_ (okc ?_ (okc ?_ (okc ?_ (okc ?_ (okc ?_ (okc ?_ (okc ?_ (okc ?_ (okc ?_ (okc ?_ (okc ?_ (okc ?_ (okc ?_ (okc ?_ (okc ?_ (okc ?_ (okc ?_ (okc ?_ (okc ?_ (okc ?_ (okc ?_ (okc ?_ (okc ?_ (okc ?_ (okc ?_ (okc ?_ (okc ?_ okn)))))))))))))))))))))))))))))))))))))
    all_goals ((try simp (disch := omega) only [SS, nmE, mf0, List.headD_cons, Go.Sx.sum, bl_len2, hk, hw2, r1, r2, r3, e1, e2, e3, ha]); first | done | omega | assumption | (simp (disch := omega) only [SS, nmE, mf0, List.headD_cons, Go.Sx.sum, bl_len2, hk, hw2, r1, r2, r3, e1, e2, e3, ha] at *; first | done | omega | assumption) | (simp_all; done) | grind)
  case rr =>
    clear next
    have hw : IntKind.i64.wrap ((i : Int) + 1) = ((i + 1 : Nat) : Int) := by rw [wr64 (by omega)]; rfl
    simp (disch := omega) only [SS, nmE, mf0, List.headD_cons, Go.Sx.sum, bl_len2, hk, hw2, r1, r2, r3, e1, e2, e3, ha, hw]
    repeat' apply And.intro
    all_goals first | trivial | rfl | omega | exact hw.symm | (intros; first | trivial | rfl | (simp_all; done)) | (simp_all; done)

theorem k2Ok1_p0 (t0 t1 t2 t3 t4 t5 t6 t7 t8 t9 t10 t11 t12 t13 t14 t15 : List UInt8) (c : Int) (N : Nat) (K M : Ix → Int) (bl : Ix → Nat) (B : Ix → Int) (i : Nat) (hd : Int) (w : Bool) (tl : Int) :
    isMore (evTill Tryd.prog sumsA 400 (behind Tryd.f6 0) 900 6 (headOf Tryd.f6 0) (envAt Tryd.f6.ntmps (lcE c N i hd w tl)) (XA t0 t1 t2 t3 t4 t5 t6 t7 t8 t9 t10 t11 t12 t13 t14 t15 N K M bl B ++ htE c hd w tl) ⟨[.s true, .s true, .s true, .s true, .s false, .s true, .s true, .t, .s false, .s false, .s true, .s true, .s true, .s false, .s false, .s true, .s true, .s true, .s true, .s true, .s false, .s true, .s true, .s true, .s true, .s true, .t, .s false, .s true, .s true, .s true, .s true, .s true, .f, .s true, .f, .f, .f, .t, .f, .s false, .s false, .s false], 130⟩) (moreP (headOf Tryd.f6 0) ([]) Tryd.f6.ntmps (lcE c N (i + 1) hd w tl) (htE c hd w tl) 900) =
    (OkL [(decide ((↑i : Int) < (↑N : Int)), true), (decide ((0 : Int) ≤ (↑i : Int) ∧ (↑i : Int) < (↑N : Int)), true), (((0 : Nat) + (↑i : Int).toNat).blt N, true), (((0 : Nat) + (↑i : Int).toNat).blt N, true), (decide ((↑(bl [(0 : Nat) + (↑i : Int).toNat]) : Int) > (20 : Int)), false), ((mf0 [(0 : Nat) + (↑i : Int).toNat]).blt N, true), (((0 : Nat) + bl [(0 : Nat) + (↑i : Int).toNat]).ble (bl [mf0 [(0 : Nat) + (↑i : Int).toNat]]), true), (K [(0 : Nat) + (↑i : Int).toNat] == (0 : Int), false), (K [(0 : Nat) + (↑i : Int).toNat] == (1 : Int), false), (K [(0 : Nat) + (↑i : Int).toNat] == (2 : Int), true), (rpB (bytesOf B [mf0 [(0 : Nat) + (↑i : Int).toNat]] (0 : Nat) (bl [(0 : Nat) + (↑i : Int).toNat])) == (0 : Int), true), (rpA (bytesOf B [mf0 [(0 : Nat) + (↑i : Int).toNat]] (0 : Nat) (bl [(0 : Nat) + (↑i : Int).toNat])), true), (decide ((↑(bl [(0 : Nat) + (↑i : Int).toNat]) : Int) < (2 : Int)), false), (decide ((↑(bl [(0 : Nat) + (↑i : Int).toNat]) : Int) > (2 : Int)), false), (decide ((0 : Int) ≤ (0 : Int) ∧ (0 : Int) < (↑(bl [(0 : Nat) + (↑i : Int).toNat]) : Int)), true), ((mf0 [(0 : Nat) + (↑i : Int).toNat]).blt N, true), (Nat.blt (0 : Nat) (bl [mf0 [(0 : Nat) + (↑i : Int).toNat]]), true), ((mf0 [(0 : Nat) + (↑i : Int).toNat]).blt N, true), (Nat.blt (0 : Nat) (bl [mf0 [(0 : Nat) + (↑i : Int).toNat]]), true), (B [mf0 [(0 : Nat) + (↑i : Int).toNat], (0 : Nat)] != (1 : Int), false), (decide ((0 : Int) ≤ (1 : Int) ∧ (1 : Int) < (↑(bl [(0 : Nat) + (↑i : Int).toNat]) : Int)), true), ((mf0 [(0 : Nat) + (↑i : Int).toNat]).blt N, true), (Nat.blt (1 : Nat) (bl [mf0 [(0 : Nat) + (↑i : Int).toNat]]), true), ((mf0 [(0 : Nat) + (↑i : Int).toNat]).blt N, true), (Nat.blt (1 : Nat) (bl [mf0 [(0 : Nat) + (↑i : Int).toNat]]), true), (!rightC (iandn IntKind.i64 (IntKind.i64.wrap (B [mf0 [(0 : Nat) + (↑i : Int).toNat], (1 : Nat)])) (4 : Int)), false), (decide ((0 : Int) ≤ (1 : Int) ∧ (1 : Int) < (↑(bl [(0 : Nat) + (↑i : Int).toNat]) : Int)), true), ((mf0 [(0 : Nat) + (↑i : Int).toNat]).blt N, true), (Nat.blt (1 : Nat) (bl [mf0 [(0 : Nat) + (↑i : Int).toNat]]), true), ((mf0 [(0 : Nat) + (↑i : Int).toNat]).blt N, true), (Nat.blt (1 : Nat) (bl [mf0 [(0 : Nat) + (↑i : Int).toNat]]), true), (iand IntKind.u8 (B [mf0 [(0 : Nat) + (↑i : Int).toNat], (1 : Nat)]) (4 : Int) != (0 : Int), true), (hd != hd, false), (!w == w, false), (tl != tl, false)] ∧ headOf Tryd.f6 (0 : Nat) = headOf Tryd.f6 (0 : Nat) ∧ (c = c ∧ (0 : Nat) = (0 : Nat) ∧ (0 : Nat) = (0 : Nat) ∧ hd = hd ∧ w = w ∧ tl = tl ∧ ((0 : Nat) = (0 : Nat) ∧ N = N) ∧ (↑N : Int) = (↑N : Int) ∧ (↑(i + (1 : Nat)) : Int) = IntKind.i64.wrap ((↑i : Int) + (1 : Int))) ∧ (hd = hd ∧ w = w) ∧ tl = tl ∧ iand IntKind.i64 c (27 : Int) = iand IntKind.i64 c (27 : Int)) := by kernel_rfl

set_option maxHeartbeats 4000000 in
theorem k2Ok1 (t0 t1 t2 t3 t4 t5 t6 t7 t8 t9 t10 t11 t12 t13 t14 t15 : List UInt8) (c : Int) (N : Nat) (K M : Ix → Int) (bl : Ix → Nat) (B : Ix → Int) (i : Nat) (hd : Int) (w : Bool) (tl : Int) (hi : i < N) (hN : N ≤ 60) (hb : bl [i] ≤ 20) (hB : ∀ j, j < bl [i] → 0 ≤ B [i, j] ∧ B [i, j] < 256) (hM : -9223372036854775808 ≤ M [i] ∧ M [i] < 9223372036854775808) (hk : K [i] = 2) (hl : bl [i] = 2) (hc : B [i, 0] = 1) (ha : ackR (B [i, 1]) = true) (hr : rightR (maskR (B [i, 1])) = true) (next : RunsTo Tryd.prog 6 (headOf Tryd.f6 0) (envAt Tryd.f6.ntmps (lcE c N (i + 1) hd w tl)) (Sx.look (XA t0 t1 t2 t3 t4 t5 t6 t7 t8 t9 t10 t11 t12 t13 t14 t15 N K M bl B ++ htE c hd w tl)) 110 YES (Sx.look []) 900) :
    RunsTo Tryd.prog 6 (headOf Tryd.f6 0) (envAt Tryd.f6.ntmps (lcE c N i hd w tl)) (Sx.look (XA t0 t1 t2 t3 t4 t5 t6 t7 t8 t9 t10 t11 t12 t13 t14 t15 N K M bl B ++ htE c hd w tl)) 110 YES (Sx.look []) 900 := by
  have h0 := hB 0 (by omega)
  have h1 := hB 1 (by omega)
  have g0 : s0 (bytesOf B [i] 0 (bl [i])) = B [i, 0] := by_get2 (by omega) h0
  have g1 : s1 (bytesOf B [i] 0 (bl [i])) = B [i, 1] := by_get2 (by omega) h1
  obtain ⟨r1, r2, r3⟩ := rp_ok (s := (bytesOf B [i] 0 (bl [i]))) (by rw [bl_len2]; exact hl) (by rw [g0]; exact hc) (by rw [g1]; exact hr)
  rw [g1] at r2 r3
  obtain ⟨e1, e2, e3⟩ := byte_eq h1.1 h1.2
  have hmk : maskR (B [i, 1]) = B [i, 1] - 4 := by simp [maskR, ha]
  rw [hr] at e2
  rw [ha] at e3
  have hr2 := hr
  rw [hmk] at hr2 e1 e2
  rw [ha] at r3
  rw [hmk] at r2
  refine runs_more baseA (More.of (k2Ok1_p0 t0 t1 t2 t3 t4 t5 t6 t7 t8 t9 t10 t11 t12 t13 t14 t15 c N K M bl B i hd w tl) ⟨?oo, rfl, ?rr⟩) (by kernel_rfl) (by kernel_rfl) rfl (gtL (by decide)) (by decide) next
  case oo =>
    clear next
    refine (okc ?_ (okc ?_ (okc ?_ (okc ?_ (okc ?_ (okc ?_ (okc ?_ (okc ?_ (okc ?_ (okc ?_ (okc ?_ (okc ?_ (okc ?_ (okc ?_ (okc ?_ (okc ?_ (okc ?_ (okc ?_ (okc ?_ (okc ?_ (okc ?_ (okc ?_ (okc ?_ (okc ?_ (okc ?_ (okc ?_ (okc ?_ (okc ?_ (okc ?_ (okc ?_ (okc ?_ (okc ?_ (okc ?_ (okc ?_ (okc ?_ okn)))))))))))))))))))))))))))))))))))
    all_goals ((try simp (disch := omega) only [SS, nmE, mf0, List.headD_cons, Go.Sx.sum, bl_len2, hk, r1, r2, r3, e1, e2, e3, ha]); first | done | omega | assumption | (simp (disch := omega) only [SS, nmE, mf0, List.headD_cons, Go.Sx.sum, bl_len2, hk, r1, r2, r3, e1, e2, e3, ha] at *; first | done | omega | assumption) | (simp_all; done) | grind)
  case rr =>
    clear next
    have hw : IntKind.i64.wrap ((i : Int) + 1) = ((i + 1 : Nat) : Int) := by rw [wr64 (by omega)]; rfl
    simp (disch := omega) only [SS, nmE, mf0, List.headD_cons, Go.Sx.sum, bl_len2, hk, r1, r2, r3, e1, e2, e3, ha, hw]
    repeat' apply And.intro
    all_goals first | trivial | rfl | omega | exact hw.symm | (intros; first | trivial | rfl | (simp_all; done)) | (simp_all; done)

end Go.Proofs.YtealbjkhjpmilaaDoor
