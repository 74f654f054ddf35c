/- Words: texts, piece by piece: variables and backslashes. -/
import Derived.Test.YtaleenklamognaaDoorZaC
set_option linter.unusedSimpArgs false
set_option linter.unusedVariables false
set_option maxRecDepth 100000
namespace Go.Proofs.YtaleenklamognaaDoor
open Go.Sx

open WordR
end Go.Proofs.YtaleenklamognaaDoor

set_option linter.unusedSimpArgs false
set_option linter.unusedVariables false
set_option maxRecDepth 100000
namespace Go.Proofs.YtaleenklamognaaDoor
open Go.Sx

open WordR
def TXR (s : List UInt8) (a0 : Nat) (X : SV → HF → Prop) : TR → Prop
  | .ok t m => X (.tup [(true, tkT (3) ([]) (0) (.vl 141 (fun _ => 0) 2 [] (fun _ => (t.ps).length))), (false, .ve0)]) (Sx.look (rdW 63 s (a0 + m : Nat) ++ prE 141 t.ps))
  | .err e => (e = 3 ∧ X (.tup [(true, tkT (0) ([]) (0) .vl0), (false, vErr 5)]) (Sx.look [])) ∨ (e = 5 ∧ X (.tup [(true, tkT (0) ([]) (0) .vl0), (false, vErr 6)]) (Sx.look [])) ∨ (e = 4 ∧ X (.tup [(true, tkT (0) ([]) (0) .vl0), (false, vErr 0)]) (Sx.look []))
theorem TXR.step {s : List UInt8} {a0 : Nat} {X Y : SV → HF → Prop} (h : ∀ v L', X v L' → Y v L') : ∀ {r : TR}, TXR s a0 X r → TXR s a0 Y r
  | .ok t m, q => h _ _ q
  | .err e, q => q.imp (fun x => ⟨x.1, h _ _ x.2⟩) (fun q => q.imp (fun x => ⟨x.1, h _ _ x.2⟩) (fun x => ⟨x.1, h _ _ x.2⟩))
end Go.Proofs.YtaleenklamognaaDoor

set_option linter.unusedSimpArgs false
set_option linter.unusedVariables false
set_option maxRecDepth 100000
namespace Go.Proofs.YtaleenklamognaaDoor
open Go.Sx

open WordR
end Go.Proofs.YtaleenklamognaaDoor

set_option linter.unusedSimpArgs false
set_option linter.unusedVariables false
set_option maxRecDepth 100000
namespace Go.Proofs.YtaleenklamognaaDoor
open Go.Sx

open WordR
end Go.Proofs.YtaleenklamognaaDoor

set_option linter.unusedSimpArgs false
set_option linter.unusedVariables false
set_option maxRecDepth 100000
namespace Go.Proofs.YtaleenklamognaaDoor
open Go.Sx

open WordR
end Go.Proofs.YtaleenklamognaaDoor

set_option linter.unusedSimpArgs false
set_option linter.unusedVariables false
set_option maxRecDepth 100000
namespace Go.Proofs.YtaleenklamognaaDoor
open Go.Sx

open WordR
def zW : Wt := ⟨0, [], 0, [], 0⟩
def wK (T : List Wt) : Ix → Int := fun is => ((T.getD (is.headD 0) zW).kind : Int)
def wX (T : List Wt) : Ix → List UInt8 := fun is => (T.getD (is.headD 0) zW).text
def wN (T : List Wt) : Ix → Int := fun is => (T.getD (is.headD 0) zW).num
def wP (T : List Wt) : Ix → Int := fun is => ((T.getD (is.headD 0) zW).pos : Int)
def wM (T : List Wt) : Ix → Nat := fun is => T.length - 1 - is.headD 0
def wL (T : List Wt) : Ix → Nat := fun is => (T.getD (is.headD 0) zW).ps.length
def gpL (T : List Wt) : Nat → Nat := fun m => (T.getD (T.length - 1 - m) zW).ps.length
def gpV (T : List Wt) : Ix → List UInt8 := fun is => ((T.getD (T.length - 1 - is.headD 0) zW).ps.getD (is.tail.headD 0) zP).var
def gpT (T : List Wt) : Ix → List UInt8 := fun is => ((T.getD (T.length - 1 - is.headD 0) zW).ps.getD (is.tail.headD 0) zP).lit
def wtE (l f : Nat) (T : List Wt) : List Ent := [⟨l, true, none, 5, .ta T.length (.tc (.vi .i64 (wK T)) (.tc (.vs (wX T)) (.tc (.vi .i64 (wN T)) (.tc (.vl f (wM T) 2 [] (wL T)) (.tc (.vi .i64 (wP T)) .t0)))))⟩, ⟨f, true, some (T.length, gpL T), 2, .tc (.vs (gpV T)) (.tc (.vs (gpT T)) .t0)⟩]
end Go.Proofs.YtaleenklamognaaDoor

set_option linter.unusedSimpArgs false
set_option linter.unusedVariables false
set_option maxRecDepth 100000
namespace Go.Proofs.YtaleenklamognaaDoor
open Go.Sx

open WordR
def SPR (T : List Wt) (X : SV → HF → Prop) : List Wt × Nat × Nat → Prop
  | (T', p, 0) => X (.tup [(false, .vl 102 (fun _ => 0) 5 [] (fun _ => (T ++ T').length)), (false, .vi .i64 fun _ => 0), (false, .ve0)]) (Sx.look (wtE 102 103 (T ++ T')))
  | (_, p, e + 1) => (e + 1 = 3 ∧ X (.tup [(false, .vl0), (false, .vi .i64 fun _ => (p : Int)), (false, vErr 5)]) (Sx.look [])) ∨ (e + 1 = 5 ∧ X (.tup [(false, .vl0), (false, .vi .i64 fun _ => (p : Int)), (false, vErr 6)]) (Sx.look [])) ∨ (e + 1 = 4 ∧ X (.tup [(false, .vl0), (false, .vi .i64 fun _ => (p : Int)), (false, vErr 0)]) (Sx.look []))
theorem SPR.step {T : List Wt} {X Y : SV → HF → Prop} (h : ∀ v L', X v L' → Y v L') : ∀ {r : List Wt × Nat × Nat}, SPR T X r → SPR T Y r
  | (T', p, 0), q => h _ _ q
  | (_, p, e + 1), q => q.imp (fun x => ⟨x.1, h _ _ x.2⟩) (fun q => q.imp (fun x => ⟨x.1, h _ _ x.2⟩) (fun x => ⟨x.1, h _ _ x.2⟩))
end Go.Proofs.YtaleenklamognaaDoor

set_option linter.unusedSimpArgs false
set_option linter.unusedVariables false
set_option maxRecDepth 100000
namespace Go.Proofs.YtaleenklamognaaDoor
open Go.Sx

open WordR
def bdT (l r : Nat) (o : List UInt8) : List Ent := [⟨l, true, none, 241000002, .tc (.vp l (fun _ => 0) []) (.tc (.vl r (fun _ => 0) 1 [] (fun _ => o.length)) .t0)⟩, ⟨r, true, none, 12000001, .ta o.length (.vi .u8 fun is => ((o.getD (is.headD 0) 0).toNat : Int))⟩]
def tolT (b : List UInt8) : Nat → List UInt8
  | 0 => [34]
  | k + 1 => tolT b k ++ toldI ((b.getD k 0).toNat : Int) true
def quoT (b : List UInt8) : List UInt8 := tolT b b.length ++ [34]
theorem toldI_le (x : Int) (p : Bool) : (toldI x p).length ≤ 4 := by
  unfold toldI; repeat' split
  all_goals simp
theorem tolT_len (b : List UInt8) : ∀ k, (tolT b k).length ≤ 1 + 4 * k
  | 0 => by simp [tolT]
  | k + 1 => by
    have := tolT_len b k
    have := toldI_le ((b.getD k 0).toNat : Int) true
    rw [tolT, List.length_append]; omega
theorem bytes_is {B : Ix → Int} {l : List UInt8} {n : Nat} (hn : l.length = n) (h : ∀ j, j < n → B [j] = ((l.getD j 0).toNat : Int)) : bytesOf B [] 0 n = l := by
  apply List.ext_getElem
  · simp [bytesOf, hn]
  · intro j h1 h2
    simp only [bytesOf, List.getElem_map, List.getElem_range, List.nil_append, Nat.zero_add]
    rw [h j (by omega), List.getD_eq_getElem?_getD, List.getElem?_eq_getElem h2]
    simp
theorem ttN_p0 (x : Int) :
    isEnd (evTill Tryd.prog [] 300 (99) 900 83 [.code (bodyOf Tryd.f83)] (envOf [vU x] Tryd.f83.ntmps) ([] ++ ([])) ⟨[.s true], 80⟩) (endP ([]) (vS [92, 110]) ([]) 120) =
    (OkL [(x == (10 : Int), true)] ∧ [(92 : UInt8), (110 : UInt8)] = [(92 : UInt8), (110 : UInt8)] ∧ True) := by kernel_rfl

set_option maxHeartbeats 4000000 in
theorem ttN (x : Int) (h : x = 10)  :
    RunsTo Tryd.prog 83 [.code (bodyOf Tryd.f83)] (envOf [vU x] Tryd.f83.ntmps) (Sx.look ([] ++ ([]))) 80 (vS [92, 110]) (Sx.look ([])) 120 := by
  refine runs_last baseO (Sx.Ends.of (ttN_p0 x) ⟨?oo, ?rr⟩) (by kernel_rfl) rfl (gtL (by decide)) (by decide)
  case oo =>
    refine (okc ?_ okn)
    all_goals first | omega | (simp (disch := omega) only [SS]; first | done | omega) | (simp_all; done) | (simp_all; omega) | (simp at *; omega)
  case rr =>
    refine ⟨?_, trivial⟩
    first | rfl | (simp_all; done) | (simp_all [bytesOf, upd, List.range_succ]; done)

theorem ttR_p0 (x : Int) :
    isEnd (evTill Tryd.prog [] 300 (99) 900 83 [.code (bodyOf Tryd.f83)] (envOf [vU x] Tryd.f83.ntmps) ([] ++ ([])) ⟨[.s false, .s true], 80⟩) (endP ([]) (vS [92, 114]) ([]) 120) =
    (OkL [(x == (10 : Int), false), (x == (13 : Int), true)] ∧ [(92 : UInt8), (114 : UInt8)] = [(92 : UInt8), (114 : UInt8)] ∧ True) := by kernel_rfl

set_option maxHeartbeats 4000000 in
theorem ttR (x : Int) (h : x = 13)  :
    RunsTo Tryd.prog 83 [.code (bodyOf Tryd.f83)] (envOf [vU x] Tryd.f83.ntmps) (Sx.look ([] ++ ([]))) 80 (vS [92, 114]) (Sx.look ([])) 120 := by
  refine runs_last baseO (Sx.Ends.of (ttR_p0 x) ⟨?oo, ?rr⟩) (by kernel_rfl) rfl (gtL (by decide)) (by decide)
  case oo =>
    refine (okc ?_ (okc ?_ okn))
    all_goals first | omega | (simp (disch := omega) only [SS]; first | done | omega) | (simp_all; done) | (simp_all; omega) | (simp at *; omega)
  case rr =>
    refine ⟨?_, trivial⟩
    first | rfl | (simp_all; done) | (simp_all [bytesOf, upd, List.range_succ]; done)

theorem ttT_p0 (x : Int) :
    isEnd (evTill Tryd.prog [] 300 (99) 900 83 [.code (bodyOf Tryd.f83)] (envOf [vU x] Tryd.f83.ntmps) ([] ++ ([])) ⟨[.s false, .s false, .s true], 80⟩) (endP ([]) (vS [92, 116]) ([]) 120) =
    (OkL [(x == (10 : Int), false), (x == (13 : Int), false), (x == (9 : Int), true)] ∧ [(92 : UInt8), (116 : UInt8)] = [(92 : UInt8), (116 : UInt8)] ∧ True) := by kernel_rfl

set_option maxHeartbeats 4000000 in
theorem ttT (x : Int) (h : x = 9)  :
    RunsTo Tryd.prog 83 [.code (bodyOf Tryd.f83)] (envOf [vU x] Tryd.f83.ntmps) (Sx.look ([] ++ ([]))) 80 (vS [92, 116]) (Sx.look ([])) 120 := by
  refine runs_last baseO (Sx.Ends.of (ttT_p0 x) ⟨?oo, ?rr⟩) (by kernel_rfl) rfl (gtL (by decide)) (by decide)
  case oo =>
    refine (okc ?_ (okc ?_ (okc ?_ okn)))
    all_goals first | omega | (simp (disch := omega) only [SS]; first | done | omega) | (simp_all; done) | (simp_all; omega) | (simp at *; omega)
  case rr =>
    refine ⟨?_, trivial⟩
    first | rfl | (simp_all; done) | (simp_all [bytesOf, upd, List.range_succ]; done)

theorem ttE_p0 (x : Int) :
    isEnd (evTill Tryd.prog [] 300 (99) 900 83 [.code (bodyOf Tryd.f83)] (envOf [vU x] Tryd.f83.ntmps) ([] ++ ([])) ⟨[.s false, .s false, .s false, .s false, .s false, .s true, .t], 80⟩) (endP ([]) (vS [92, UInt8.ofNat x.toNat]) ([]) 120) =
    (OkL [(x == (10 : Int), false), (x == (13 : Int), false), (x == (9 : Int), false), (x == (34 : Int), false), (x == (36 : Int), false), (x == (92 : Int), true)] ∧ [(92 : UInt8), UInt8.ofNat x.toNat] = bytesOf (upd (upd (fun is => (0 : Int)) [(0 : Nat)] (92 : Int)) [(1 : Nat)] x) [] (0 : Nat) (2 : Nat) ∧ True) := by kernel_rfl
theorem ttE_p1 (x : Int) :
    isEnd (evTill Tryd.prog [] 300 (99) 900 83 [.code (bodyOf Tryd.f83)] (envOf [vU x] Tryd.f83.ntmps) ([] ++ ([])) ⟨[.s false, .s false, .s false, .s false, .s true, .t], 80⟩) (endP ([]) (vS [92, UInt8.ofNat x.toNat]) ([]) 120) =
    (OkL [(x == (10 : Int), false), (x == (13 : Int), false), (x == (9 : Int), false), (x == (34 : Int), false), (x == (36 : Int), true)] ∧ [(92 : UInt8), UInt8.ofNat x.toNat] = bytesOf (upd (upd (fun is => (0 : Int)) [(0 : Nat)] (92 : Int)) [(1 : Nat)] x) [] (0 : Nat) (2 : Nat) ∧ True) := by kernel_rfl
theorem ttE_p2 (x : Int) :
    isEnd (evTill Tryd.prog [] 300 (99) 900 83 [.code (bodyOf Tryd.f83)] (envOf [vU x] Tryd.f83.ntmps) ([] ++ ([])) ⟨[.s false, .s false, .s false, .s true, .t], 80⟩) (endP ([]) (vS [92, UInt8.ofNat x.toNat]) ([]) 120) =
    (OkL [(x == (10 : Int), false), (x == (13 : Int), false), (x == (9 : Int), false), (x == (34 : Int), true)] ∧ [(92 : UInt8), UInt8.ofNat x.toNat] = bytesOf (upd (upd (fun is => (0 : Int)) [(0 : Nat)] (92 : Int)) [(1 : Nat)] x) [] (0 : Nat) (2 : Nat) ∧ True) := by kernel_rfl

set_option maxHeartbeats 4000000 in
theorem ttE (x : Int) (hx : 0 ≤ x ∧ x < 256) (h : x = 34 ∨ x = 36 ∨ x = 92)  :
    RunsTo Tryd.prog 83 [.code (bodyOf Tryd.f83)] (envOf [vU x] Tryd.f83.ntmps) (Sx.look ([] ++ ([]))) 80 (vS [92, UInt8.ofNat x.toNat]) (Sx.look ([])) 120 := by
  refine bcase (c := (x == (34 : Int))) (fun gg0 => ?_) (fun gg0 => ?_)
  · refine bcase (c := (x == (36 : Int))) (fun gg1 => ?_) (fun gg1 => ?_)
    · refine runs_last baseO (Sx.Ends.of (ttE_p0 x) ⟨?oo, ?rr⟩) (by kernel_rfl) rfl (gtL (by decide)) (by decide)
      case oo =>
        refine (okc ?_ (okc ?_ (okc ?_ (okc gg0 (okc gg1 (okc ?_ okn))))))
        all_goals first | omega | (simp (disch := omega) only [SS]; first | done | omega) | (simp_all; done) | (simp_all; omega) | (simp at *; omega)
      case rr =>
        refine ⟨?_, trivial⟩
        first | rfl | (simp_all; done) | (simp_all [bytesOf, upd, List.range_succ]; done)
    · refine runs_last baseO (Sx.Ends.of (ttE_p1 x) ⟨?oo, ?rr⟩) (by kernel_rfl) rfl (gtL (by decide)) (by decide)
      case oo =>
        refine (okc ?_ (okc ?_ (okc ?_ (okc gg0 (okc gg1 okn)))))
        all_goals first | omega | (simp (disch := omega) only [SS]; first | done | omega) | (simp_all; done) | (simp_all; omega) | (simp at *; omega)
      case rr =>
        refine ⟨?_, trivial⟩
        first | rfl | (simp_all; done) | (simp_all [bytesOf, upd, List.range_succ]; done)
  · refine runs_last baseO (Sx.Ends.of (ttE_p2 x) ⟨?oo, ?rr⟩) (by kernel_rfl) rfl (gtL (by decide)) (by decide)
    case oo =>
      refine (okc ?_ (okc ?_ (okc ?_ (okc gg0 okn))))
      all_goals first | omega | (simp (disch := omega) only [SS]; first | done | omega) | (simp_all; done) | (simp_all; omega) | (simp at *; omega)
    case rr =>
      refine ⟨?_, trivial⟩
      first | rfl | (simp_all; done) | (simp_all [bytesOf, upd, List.range_succ]; done)

theorem ttC_p0 (x : Int) :
    isEnd (evTill Tryd.prog [] 300 (99) 900 83 [.code (bodyOf Tryd.f83)] (envOf [vU x] Tryd.f83.ntmps) ([] ++ ([])) ⟨[.s false, .s false, .s false, .s false, .s false, .s false, .s true, .s true, .t], 80⟩) (endP ([]) (vS [UInt8.ofNat x.toNat]) ([]) 120) =
    (OkL [(x == (10 : Int), false), (x == (13 : Int), false), (x == (9 : Int), false), (x == (34 : Int), false), (x == (36 : Int), false), (x == (92 : Int), false), (decide (x ≥ (32 : Int)), true), (decide (x ≤ (126 : Int)), true)] ∧ [UInt8.ofNat x.toNat] = bytesOf (fun is => x) [] (0 : Nat) (1 : Nat) ∧ True) := by kernel_rfl

set_option maxHeartbeats 4000000 in
theorem ttC (x : Int) (hx : 0 ≤ x ∧ x < 256) (n1 : x ≠ 10) (n2 : x ≠ 13) (n3 : x ≠ 9) (n4 : ¬ (x = 34 ∨ x = 36 ∨ x = 92)) (h : 32 ≤ x ∧ x ≤ 126)  :
    RunsTo Tryd.prog 83 [.code (bodyOf Tryd.f83)] (envOf [vU x] Tryd.f83.ntmps) (Sx.look ([] ++ ([]))) 80 (vS [UInt8.ofNat x.toNat]) (Sx.look ([])) 120 := by
  refine runs_last baseO (Sx.Ends.of (ttC_p0 x) ⟨?oo, ?rr⟩) (by kernel_rfl) rfl (gtL (by decide)) (by decide)
  case oo =>
    refine (okc ?_ (okc ?_ (okc ?_ (okc ?_ (okc ?_ (okc ?_ (okc ?_ (okc ?_ okn))))))))
    all_goals first | omega | (simp (disch := omega) only [SS]; first | done | omega) | (simp_all; done) | (simp_all; omega) | (simp at *; omega)
  case rr =>
    refine ⟨?_, trivial⟩
    first | rfl | (simp_all; done) | (simp_all [bytesOf, upd, List.range_succ]; done)

theorem ttX_p0 (x : Int) :
    isEnd (evTill Tryd.prog [] 300 (99) 900 83 [.code (bodyOf Tryd.f83)] (envOf [vU x] Tryd.f83.ntmps) ([] ++ ([])) ⟨[.s false, .s false, .s false, .s false, .s false, .s false, .s false, .t, .s true, .s true, .t, .t], 80⟩) (endP ([]) (vS [92, 120, hexS.getD (x / 16).toNat 0, hexS.getD (x % 16).toNat 0]) ([]) 120) =
    (OkL [(x == (10 : Int), false), (x == (13 : Int), false), (x == (9 : Int), false), (x == (34 : Int), false), (x == (36 : Int), false), (x == (92 : Int), false), (decide (x ≥ (32 : Int)), false), (decide ((0 : Int) ≤ ishr IntKind.u8 x (4 : Int) ∧ ishr IntKind.u8 x (4 : Int) < (↑(16 : Nat) : Int)), true), (decide ((0 : Int) ≤ iand IntKind.u8 x (15 : Int) ∧ iand IntKind.u8 x (15 : Int) < (↑(16 : Nat) : Int)), true)] ∧ [(92 : UInt8), (120 : UInt8), hexS.getD (x / (16 : Int)).toNat (0 : UInt8), hexS.getD (x % (16 : Int)).toNat (0 : UInt8)] = [(92 : UInt8), (120 : UInt8)] ++ bytesOf (upd (upd (fun is => (0 : Int)) [(0 : Nat)] (↑([(48 : UInt8), (49 : UInt8), (50 : UInt8), (51 : UInt8), (52 : UInt8), (53 : UInt8), (54 : UInt8), (55 : UInt8), (56 : UInt8), (57 : UInt8), (97 : UInt8), (98 : UInt8), (99 : UInt8), (100 : UInt8), (101 : UInt8), (102 : UInt8)].getD (ishr IntKind.u8 x (4 : Int)).toNat (0 : UInt8)).toNat : Int)) [(1 : Nat)] (↑([(48 : UInt8), (49 : UInt8), (50 : UInt8), (51 : UInt8), (52 : UInt8), (53 : UInt8), (54 : UInt8), (55 : UInt8), (56 : UInt8), (57 : UInt8), (97 : UInt8), (98 : UInt8), (99 : UInt8), (100 : UInt8), (101 : UInt8), (102 : UInt8)].getD (iand IntKind.u8 x (15 : Int)).toNat (0 : UInt8)).toNat : Int)) [] (0 : Nat) (2 : Nat) ∧ True) := by kernel_rfl
theorem ttX_p1 (x : Int) :
    isEnd (evTill Tryd.prog [] 300 (99) 900 83 [.code (bodyOf Tryd.f83)] (envOf [vU x] Tryd.f83.ntmps) ([] ++ ([])) ⟨[.s false, .s false, .s false, .s false, .s false, .s false, .s true, .s false, .t, .s true, .s true, .t, .t], 80⟩) (endP ([]) (vS [92, 120, hexS.getD (x / 16).toNat 0, hexS.getD (x % 16).toNat 0]) ([]) 120) =
    (OkL [(x == (10 : Int), false), (x == (13 : Int), false), (x == (9 : Int), false), (x == (34 : Int), false), (x == (36 : Int), false), (x == (92 : Int), false), (decide (x ≥ (32 : Int)), true), (decide (x ≤ (126 : Int)), false), (decide ((0 : Int) ≤ ishr IntKind.u8 x (4 : Int) ∧ ishr IntKind.u8 x (4 : Int) < (↑(16 : Nat) : Int)), true), (decide ((0 : Int) ≤ iand IntKind.u8 x (15 : Int) ∧ iand IntKind.u8 x (15 : Int) < (↑(16 : Nat) : Int)), true)] ∧ [(92 : UInt8), (120 : UInt8), hexS.getD (x / (16 : Int)).toNat (0 : UInt8), hexS.getD (x % (16 : Int)).toNat (0 : UInt8)] = [(92 : UInt8), (120 : UInt8)] ++ bytesOf (upd (upd (fun is => (0 : Int)) [(0 : Nat)] (↑([(48 : UInt8), (49 : UInt8), (50 : UInt8), (51 : UInt8), (52 : UInt8), (53 : UInt8), (54 : UInt8), (55 : UInt8), (56 : UInt8), (57 : UInt8), (97 : UInt8), (98 : UInt8), (99 : UInt8), (100 : UInt8), (101 : UInt8), (102 : UInt8)].getD (ishr IntKind.u8 x (4 : Int)).toNat (0 : UInt8)).toNat : Int)) [(1 : Nat)] (↑([(48 : UInt8), (49 : UInt8), (50 : UInt8), (51 : UInt8), (52 : UInt8), (53 : UInt8), (54 : UInt8), (55 : UInt8), (56 : UInt8), (57 : UInt8), (97 : UInt8), (98 : UInt8), (99 : UInt8), (100 : UInt8), (101 : UInt8), (102 : UInt8)].getD (iand IntKind.u8 x (15 : Int)).toNat (0 : UInt8)).toNat : Int)) [] (0 : Nat) (2 : Nat) ∧ True) := by kernel_rfl

set_option maxHeartbeats 4000000 in
theorem ttX (x : Int) (hx : 0 ≤ x ∧ x < 256) (n1 : x ≠ 10) (n2 : x ≠ 13) (n3 : x ≠ 9) (n4 : ¬ (x = 34 ∨ x = 36 ∨ x = 92)) (h : ¬ (32 ≤ x ∧ x ≤ 126))  :
    RunsTo Tryd.prog 83 [.code (bodyOf Tryd.f83)] (envOf [vU x] Tryd.f83.ntmps) (Sx.look ([] ++ ([]))) 80 (vS [92, 120, hexS.getD (x / 16).toNat 0, hexS.getD (x % 16).toNat 0]) (Sx.look ([])) 120 := by
  obtain ⟨h4, h5⟩ := sh_at hx
  refine bcase (c := (decide (x ≥ (32 : Int)))) (fun gg0 => ?_) (fun gg0 => ?_)
  · refine runs_last baseO (Sx.Ends.of (ttX_p0 x) ⟨?oo, ?rr⟩) (by kernel_rfl) rfl (gtL (by decide)) (by decide)
    case oo =>
      refine (okc ?_ (okc ?_ (okc ?_ (okc ?_ (okc ?_ (okc ?_ (okc gg0 (okc ?_ (okc ?_ okn)))))))))
      all_goals first | omega | (simp (disch := omega) only [SS, h4, h5]; first | done | omega) | (simp_all; done) | (simp_all; omega) | (simp at *; omega)
    case rr =>
      refine ⟨?_, trivial⟩
      rw [h4, h5]
      simp [bytesOf, upd, List.range_succ, hexS]
  · refine runs_last baseO (Sx.Ends.of (ttX_p1 x) ⟨?oo, ?rr⟩) (by kernel_rfl) rfl (gtL (by decide)) (by decide)
    case oo =>
      refine (okc ?_ (okc ?_ (okc ?_ (okc ?_ (okc ?_ (okc ?_ (okc gg0 (okc ?_ (okc ?_ (okc ?_ okn))))))))))
      all_goals first | omega | (simp (disch := omega) only [SS, h4, h5]; first | done | omega) | (simp_all; done) | (simp_all; omega) | (simp at *; omega)
    case rr =>
      refine ⟨?_, trivial⟩
      rw [h4, h5]
      simp [bytesOf, upd, List.range_succ, hexS]

theorem ttT' (x : Int) (hx : 0 ≤ x ∧ x < 256) : RunsTo Tryd.prog 83 [.code (bodyOf Tryd.f83)] (envOf [vU x] Tryd.f83.ntmps) (Sx.look ([] ++ ([]))) 80 (vS (toldI x true)) (Sx.look []) 120 := by
  unfold toldI
  split
  · rename_i h; exact ttN x h
  · rename_i n1
    split
    · rename_i h; exact ttR x h
    · rename_i n2
      split
      · rename_i h; exact ttT x h
      · rename_i n3
        split
        · rename_i h; exact ttE x hx h
        · rename_i n4
          split
          · rename_i h; exact ttC x hx n1 n2 n3 n4 h.2
          · rename_i h; exact ttX x hx n1 n2 n3 n4 (fun q => h ⟨rfl, q⟩)
def ttP : PC := { args := [.v (.vi .u8 0)], heap := [], gs := [], G := 23, tp := 213, n := 80, n' := 120, cond := fun e => decide (0 ≤ eI e 0 [] ∧ eI e 0 [] < 256), v := fun e => vS (toldI (eI e 0 []) true), post := fun e => [] }
theorem ttP_pc : PC.Runs Tryd.prog 83 Tryd.f83 (bodyOf Tryd.f83) ttP := ⟨Tryd.func83, by kernel_rfl, (fun g hg => by first | (cases hg; done) | (revert g; show ∀ g ∈ ([] : List Nat), g < 23; decide)), fun e H hc => by
  have hc : (decide (0 ≤ eI e 0 [] ∧ eI e 0 [] < 256)) = true := hc
  try simp only [Bool.and_eq_true, decide_eq_true_eq, Nat.beq_eq] at hc
  exact ttT' (eI e 0 []) hc⟩
def sumsTQ : List (FuncId × Summ) := [(100, bldCk 120), (69, bldStr 120 5), (83, ttP.summ 46)]
theorem baseTQ : Base0 Tryd.prog sumsTQ := (((baseO.cons Tryd.func83 (by kernel_rfl) (PC.summ_ok ttP_pc gtopG)).cons Tryd.func69 (by kernel_rfl) bdStr).cons Tryd.func100 (by kernel_rfl) bdCk)
theorem tq0_p0 (b : List UInt8) :
    isMore (evTill Tryd.prog sumsTQ 500 (behind Tryd.f46 0) 900 46 [.code (bodyOf Tryd.f46)] (envOf [vS b] Tryd.f46.ntmps) ([] ++ ([])) ⟨[.t, .t], 80⟩) (moreP (headOf Tryd.f46 0) ([((101 : Nat), Rn.to (80 : Nat)), ((103 : Nat), Rn.to (83 : Nat)), ((102 : Nat), Rn.to (82 : Nat))]) Tryd.f46.ntmps ([(3, vP 101), (8, vL 103 1 b.length), (9, vN b.length), (10, vN (0 : Nat))]) (bdT 101 102 ([34]) ++ rwB 103 b) 320) =
    (OkL [] ∧ headOf Tryd.f46 (0 : Nat) = headOf Tryd.f46 (0 : Nat) ∧ ((0 : Nat) = (0 : Nat) ∧ ((0 : Nat) = (0 : Nat) ∧ b.length = b.length) ∧ (↑b.length : Int) = (↑b.length : Int) ∧ (↑(0 : Nat) : Int) = (0 : Int)) ∧ ((0 : Nat) = (0 : Nat) ∧ (0 : Nat) = (0 : Nat) ∧ (1 : Nat) = (1 : Nat)) ∧ ((1 : Nat) = (1 : Nat) ∧ ∀ (i : Nat), i < (1 : Nat) → (↑([(34 : UInt8)].getD i (0 : UInt8)).toNat : Int) = (34 : Int)) ∧ b.length = b.length ∧ ∀ (i : Nat), i < b.length → (↑(b.getD i (0 : UInt8)).toNat : Int) = (↑(b.getD i (0 : UInt8)).toNat : Int)) := by kernel_rfl

set_option maxHeartbeats 4000000 in
theorem tq0 (b : List UInt8) (hb : b.length ≤ 100000)  (v : SV) (L' : HF) (next : RunsTo Tryd.prog 46 (headOf Tryd.f46 0) (envAt Tryd.f46.ntmps ([(3, vP 101), (8, vL 103 1 b.length), (9, vN b.length), (10, vN (0 : Nat))])) (Sx.look ([] ++ (bdT 101 102 ([34]) ++ rwB 103 b))) 80 (v) (L') 320) :
    RunsTo Tryd.prog 46 [.code (bodyOf Tryd.f46)] (envOf [vS b] Tryd.f46.ntmps) (Sx.look ([] ++ ([]))) 80 (v) (L') 320 := by
  refine runs_more baseTQ (More.of (tq0_p0 b) ⟨?oo, rfl, ?rr⟩) (by kernel_rfl) (by kernel_rfl) rfl (gtL (by decide)) (by decide) next
  case oo =>
    clear next
    refine okn
    all_goals ((try simp (disch := omega) only [SS]); first | done | omega | assumption | (simp (disch := omega) only [SS] at *; first | done | omega | assumption) | (simp_all; done))
  case rr =>
    clear next
    try simp (disch := omega) only [SS]
    repeat' apply And.intro
    all_goals first | exact True.intro | with_reducible rfl | omega | (intro k hk; obtain rfl : k = 0 := (by simp at hk; omega); rfl) | (simp_all; done) | rfl

theorem tq1_p0 (b o : List UInt8) (i : Nat) :
    isMore (evTill Tryd.prog sumsTQ 500 (behind Tryd.f46 0) 900 46 (headOf Tryd.f46 0) (envAt Tryd.f46.ntmps ([(3, vP 101), (8, vL 103 1 b.length), (9, vN b.length), (10, vN (i : Nat))])) ([] ++ (bdT 101 102 (o) ++ rwB 103 b)) ⟨[.s true, .s true, .s true, .s true, .s true, .s true, .s true], 110⟩) (moreP (headOf Tryd.f46 0) ([((102 : Nat), Rn.to (150 : Nat))]) Tryd.f46.ntmps ([(3, vP 101), (8, vL 103 1 b.length), (9, vN b.length), (10, vN (i + 1 : Nat))]) (bdT 101 102 (o ++ toldI ((b.getD i 0).toNat : Int) true) ++ rwB 103 b) 320) =
    (OkL [(decide ((↑i : Int) < (↑b.length : Int)), true), (decide ((0 : Int) ≤ (↑i : Int) ∧ (↑i : Int) < (↑b.length : Int)), true), (((0 : Nat) + (↑i : Int).toNat).blt b.length, true), (((0 : Nat) + (↑i : Int).toNat).blt b.length, true), (decide ((0 : Int) ≤ (↑(b.getD ((0 : Nat) + (↑i : Int).toNat) (0 : UInt8)).toNat : Int) ∧ (↑(b.getD ((0 : Nat) + (↑i : Int).toNat) (0 : UInt8)).toNat : Int) < (256 : Int)), true), (((0 : Nat) + o.length).ble o.length, true), (decide (((2 : Nat) * (o.length + (toldI (↑(b.getD ((0 : Nat) + (↑i : Int).toNat) (0 : UInt8)).toNat : Int) true).length) + (192 : Nat)) * (1 : Nat) ≤ (281474976710656 : Nat)), true)] ∧ headOf Tryd.f46 (0 : Nat) = headOf Tryd.f46 (0 : Nat) ∧ ((0 : Nat) = (0 : Nat) ∧ ((0 : Nat) = (0 : Nat) ∧ b.length = b.length) ∧ (↑b.length : Int) = (↑b.length : Int) ∧ (↑(i + (1 : Nat)) : Int) = IntKind.i64.wrap ((↑i : Int) + (1 : Int))) ∧ ((0 : Nat) = (0 : Nat) ∧ (0 : Nat) = (0 : Nat) ∧ (o ++ toldI (↑(b.getD i (0 : UInt8)).toNat : Int) true).length = o.length + (toldI (↑(b.getD ((0 : Nat) + (↑i : Int).toNat) (0 : UInt8)).toNat : Int) true).length) ∧ ((o ++ toldI (↑(b.getD i (0 : UInt8)).toNat : Int) true).length = o.length + (toldI (↑(b.getD ((0 : Nat) + (↑i : Int).toNat) (0 : UInt8)).toNat : Int) true).length ∧ ∀ (i_1 : Nat), i_1 < (o ++ toldI (↑(b.getD i (0 : UInt8)).toNat : Int) true).length → (↑((o ++ toldI (↑(b.getD i (0 : UInt8)).toNat : Int) true).getD i_1 (0 : UInt8)).toNat : Int) = appF o.length (0 : Nat) (fun is => (↑(o.getD (List.headD is (0 : Nat)) (0 : UInt8)).toNat : Int)) (fun is => (↑((toldI (↑(b.getD ((0 : Nat) + (↑i : Int).toNat) (0 : UInt8)).toNat : Int) true).getD (List.headD is (0 : Nat)) (0 : UInt8)).toNat : Int)) [i_1]) ∧ b.length = b.length ∧ ∀ (i : Nat), i < b.length → (↑(b.getD i (0 : UInt8)).toNat : Int) = (↑(b.getD i (0 : UInt8)).toNat : Int)) := by kernel_rfl

set_option maxHeartbeats 4000000 in
theorem tq1 (b o : List UInt8) (i : Nat) (hi : i < b.length) (ho : o.length ≤ 500000) (hb : b.length ≤ 100000)  (v : SV) (L' : HF) (next : RunsTo Tryd.prog 46 (headOf Tryd.f46 0) (envAt Tryd.f46.ntmps ([(3, vP 101), (8, vL 103 1 b.length), (9, vN b.length), (10, vN (i + 1 : Nat))])) (Sx.look ([] ++ (bdT 101 102 (o ++ toldI ((b.getD i 0).toNat : Int) true) ++ rwB 103 b))) 80 (v) (L') 320) :
    RunsTo Tryd.prog 46 (headOf Tryd.f46 0) (envAt Tryd.f46.ntmps ([(3, vP 101), (8, vL 103 1 b.length), (9, vN b.length), (10, vN (i : Nat))])) (Sx.look ([] ++ (bdT 101 102 (o) ++ rwB 103 b))) 80 (v) (L') 320 := by
  have hw : IntKind.i64.wrap ((i : Int) + 1) = ((i + 1 : Nat) : Int) := by rw [wr64 (by omega)]; rfl
  have hu := u8nat (b.getD i 0)
  have hap := app_bytes o (toldI ((b.getD i 0).toNat : Int) true) (fun is => (((toldI ((b.getD i 0).toNat : Int) true).getD (is.headD 0) 0).toNat : Int)) (fun j hj => rfl)
  have htl := toldI_le ((b.getD i 0).toNat : Int) true
  refine runs_more baseTQ (More.of (tq1_p0 b o i) ⟨?oo, rfl, ?rr⟩) (by kernel_rfl) (by kernel_rfl) rfl (gtL (by decide)) (by decide) next
  case oo =>
    clear next
    refine (okc ?_ (okc ?_ (okc ?_ (okc ?_ (okc ?_ (okc ?_ (okc ?_ okn)))))))
    all_goals ((try simp (disch := omega) only [SS, hw]); first | done | omega | assumption | (simp (disch := omega) only [SS, hw] at *; first | done | omega | assumption) | (simp_all; done))
  case rr =>
    clear next
    try simp (disch := omega) only [SS, hw, Go.Sx.sum, List.length_append, List.length_cons, List.length_nil, Nat.zero_add]
    repeat' apply And.intro
    all_goals first | exact True.intro | with_reducible rfl | omega | (intro k hk; exact hap k (by simpa using hk)) | (intros; first | omega | (simp_all; done)) | (simp_all; done) | rfl

theorem tq2_p0 (b o : List UInt8) (i : Nat) :
    isEnd (evTill Tryd.prog sumsTQ 500 (99) 900 46 (headOf Tryd.f46 0) (envAt Tryd.f46.ntmps ([(3, vP 101), (8, vL 103 1 b.length), (9, vN b.length), (10, vN (i : Nat))])) ([] ++ (bdT 101 102 (o) ++ rwB 103 b)) ⟨[.s false, .t, .s true, .s true, .t, .s true, .s true], 110⟩) (endP ([]) (vS (o ++ [34])) ([]) 320) =
    (OkL [(decide ((↑i : Int) < (↑b.length : Int)), false), (((0 : Nat) + o.length).ble o.length, true), (decide (((2 : Nat) * (o.length + (1 : Nat)) + (192 : Nat)) * (1 : Nat) ≤ (281474976710656 : Nat)), true), ((o.length + (1 : Nat)).ble (o.length + (1 : Nat)), true), ((o.length + (1 : Nat)).ble (1000000 : Nat), true)] ∧ o ++ [(34 : UInt8)] = bytesOf (appF o.length (0 : Nat) (fun is => (↑(o.getD (List.headD is (0 : Nat)) (0 : UInt8)).toNat : Int)) fun js => (34 : Int)) [] (0 : Nat) (o.length + (1 : Nat)) ∧ True) := by kernel_rfl

set_option maxHeartbeats 4000000 in
theorem tq2 (b o : List UInt8) (i : Nat) (hi : i = b.length) (ho : o.length ≤ 500000)  :
    RunsTo Tryd.prog 46 (headOf Tryd.f46 0) (envAt Tryd.f46.ntmps ([(3, vP 101), (8, vL 103 1 b.length), (9, vN b.length), (10, vN (i : Nat))])) (Sx.look ([] ++ (bdT 101 102 (o) ++ rwB 103 b))) 80 (vS (o ++ [34])) (Sx.look ([])) 320 := by
  have hap := app_byte o 34 (fun _ => 34) rfl
  refine runs_last baseTQ (Sx.Ends.of (tq2_p0 b o i) ⟨?oo, ?rr⟩) (by kernel_rfl) rfl (gtL (by decide)) (by decide)
  case oo =>
    refine (okc ?_ (okc ?_ (okc ?_ (okc ?_ (okc ?_ okn)))))
    all_goals ((try simp (disch := omega) only [SS]); first | done | omega | assumption | (simp (disch := omega) only [SS] at *; first | done | omega | assumption) | (simp_all; done))
  case rr =>
    refine ⟨?_, trivial⟩
    exact (bytes_is (by simp) (fun j hj => (hap j (by simpa using hj)).symm)).symm

theorem tqT (b : List UInt8) (hb : b.length ≤ 100000) : RunsTo Tryd.prog 46 [.code (bodyOf Tryd.f46)] (envOf [vS b] Tryd.f46.ntmps) (Sx.look ([] ++ ([]))) 80 (vS (quoT b)) (Sx.look []) 320 := by
  refine tq0 b hb _ _ ?_
  suffices z : ∀ (j i : Nat), i + j = b.length → RunsTo Tryd.prog 46 (headOf Tryd.f46 0) (envAt Tryd.f46.ntmps ([(3, vP 101), (8, vL 103 1 b.length), (9, vN b.length), (10, vN (i : Nat))])) (Sx.look ([] ++ (bdT 101 102 (tolT b i) ++ rwB 103 b))) 80 (vS (quoT b)) (Sx.look []) 320 from z b.length 0 (by omega)
  intro j
  induction j with
  | zero =>
    intro i hi
    have hl := tolT_len b i
    have e : i = b.length := by omega
    subst e
    exact tq2 b _ _ rfl (by omega)
  | succ j ih =>
    intro i hi
    have hl := tolT_len b i
    exact tq1 b _ i (by omega) (by omega) hb _ _ (ih (i + 1) (by omega))
def tqP : PC := { args := [.v (.vs 0)], heap := [], gs := [], G := 23, tp := 213, n := 80, n' := 320, cond := fun e => decide ((eS e 0 []).length ≤ 100000), v := fun e => vS (quoT (eS e 0 [])), post := fun e => [] }
theorem tqP_pc : PC.Runs Tryd.prog 46 Tryd.f46 (bodyOf Tryd.f46) tqP := ⟨Tryd.func46, by kernel_rfl, (fun g hg => by first | (cases hg; done) | (revert g; show ∀ g ∈ ([] : List Nat), g < 23; decide)), fun e H hc => by
  have hc : (decide ((eS e 0 []).length ≤ 100000)) = true := hc
  try simp only [Bool.and_eq_true, decide_eq_true_eq, Nat.beq_eq] at hc
  exact tqT (eS e 0 []) hc⟩
end Go.Proofs.YtaleenklamognaaDoor

set_option linter.unusedSimpArgs false
set_option linter.unusedVariables false
set_option maxRecDepth 100000
namespace Go.Proofs.YtaleenklamognaaDoor
open Go.Sx

open WordR
def sumsTW : List (FuncId × Summ) := [(46, tqP.summ 46)]
theorem baseTW : Base0 Tryd.prog sumsTW := (baseO.cons Tryd.func46 (by kernel_rfl) (PC.summ_ok tqP_pc gtopG))
theorem tavI_p0 (t0 : List UInt8) :
    isEnd (evTill Tryd.prog sumsTW 500 (99) 900 26 [.code (bodyOf Tryd.f26)] (envOf [] Tryd.f26.ntmps) ([] ++ ([])) ⟨[.f, .f, .f, .f, .f, .f, .t, .f, .t, .t, .t, .t, .t, .t, .t, .t, .t, .t, .t, .t, .t, .t, .t, .t, .t, .t, .t, .t, .t, .t, .t, .t, .t, .t, .t, .t, .t, .f, .t, .t], 80⟩) (endP ([]) (YES) ([]) 1200) =
    (OkL [] ∧ true = true ∧ True) := by kernel_rfl

set_option maxHeartbeats 4000000 in
theorem tavI (t0 : List UInt8)  :
    RunsTo Tryd.prog 26 [.code (bodyOf Tryd.f26)] (envOf [] Tryd.f26.ntmps) (Sx.look ([] ++ ([]))) 80 (YES) (Sx.look ([])) 1200 := by
  refine runs_last baseTW (Sx.Ends.of (tavI_p0 t0) ⟨?oo, ?rr⟩) (by kernel_rfl) rfl (gtL (by decide)) (by decide)
  case oo =>
    refine okn
    all_goals first | rfl | decide | (decide +kernel)
  case rr =>
    try simp (disch := omega) only [SS]
    repeat' apply And.intro
    all_goals first | exact True.intro | with_reducible rfl | omega | (intros; first | exact True.intro | with_reducible rfl | omega | (simp_all; done)) | (simp_all; done) | rfl

def tavP : PC := { args := [], heap := [], gs := [], G := 23, tp := 213, n := 80, n' := 1200, cond := fun e => true, v := fun e => YES, post := fun e => [] }
theorem tavP_pc : PC.Runs Tryd.prog 26 Tryd.f26 (bodyOf Tryd.f26) tavP := ⟨Tryd.func26, by kernel_rfl, (fun g hg => by first | (cases hg; done) | (revert g; show ∀ g ∈ ([] : List Nat), g < 23; decide)), fun e H hc => by
  have hc : (true) = true := hc
  try simp only [Bool.and_eq_true, decide_eq_true_eq, Nat.beq_eq] at hc
  exact tavI []⟩
def tqS (t0 t1 t2 t3 t4 t5 t6 t7 t8 t9 t10 t11 t12 t13 t14 t15 : List UInt8) : List Ent := sentEnts 23 213 [(4, t0), (3, t1), (5, t2), (0, t3), (6, t4), (2, t5), (7, t6), (8, t7), (9, t8), (10, t9), (11, t10), (12, t11), (13, t12), (14, t13), (15, t14), (1, t15)]
end Go.Proofs.YtaleenklamognaaDoor

