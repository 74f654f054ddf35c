/- Trace: Line, Lines. -/
import Derived.Test.YtaleenklamognaaDoorZdC
import Derived.Test.YtaleenklamognaaDoorZbC
set_option linter.unusedSimpArgs false
set_option linter.unusedVariables false
set_option maxRecDepth 100000
namespace Go.Proofs.YtaleenklamognaaDoor
open Go.Sx

open WordR
def ntV (W : Ix → List UInt8) (a b c d : Int) (on : Bool) : List UInt8 :=
  if a = 1 then [99, 111, 109, 109, 97, 110, 100, 32] ++ cmdV W b else if a = 2 then [109, 97, 114, 107, 101, 100, 32] ++ cmdV W b
  else if a = 3 then [116, 117, 114, 110, 101, 100, 32] ++ sidV c ++ [32] ++ optV d ++ [32] ++ (if on = true then [111, 110] else [111, 102, 102])
  else if a = 4 then [119, 114, 111, 110, 103, 32] ++ sidV c ++ [32] ++ optV d else if a = 5 then [100, 114, 111, 112, 112, 101, 100, 32] ++ optV d else [63]
def plV (k n c : Int) : List UInt8 := if c < 0 ∧ k ≠ 7 then Lib.itoa n ++ [46, 112, 97, 115, 115] else Lib.itoa n ++ [46] ++ Lib.itoa c
def flV (k : Nat) : List UInt8 := if 16 ≤ k then [] else [32, 101, 114, 114, 111, 114, 32] ++ Lib.itoa (xnum k)
def chV (p : List UInt8) (T : Ix → List UInt8) : Nat → List UInt8
  | 0 => [99, 104, 111, 115, 101, 32] ++ p
  | q + 1 => chV p T q ++ ([32] ++ quoT (T [q]))
def lnV (W : Ix → List UInt8) (r : RF) (T : Ix → List UInt8) : List UInt8 :=
  if r.K [] = 1 then [115, 101, 110, 116, 32] ++ quoT (r.X []) else if r.K [] = 2 then [108, 111, 103, 103, 101, 100, 32] ++ quoT (r.X [])
  else if r.K [] = 3 then [114, 101, 115, 105, 122, 101, 100, 32] ++ Lib.itoa (r.N []) else if r.K [] = 6 then [108, 111, 115, 116, 32] ++ Lib.itoa (r.N [])
  else if r.K [] = 4 then [97, 115, 107, 101, 100, 32] ++ cmdV W (r.V []) ++ [32] ++ optV (r.O []) ++ flV (r.E [])
  else if r.K [] = 5 then [110, 111, 116, 101, 100, 32] ++ ntV W (r.nk []) (r.nc []) (r.ns []) (r.no []) (r.nb [])
  else if r.K [] = 7 then chV (plV (r.K []) (r.N []) (r.C [])) T (r.L []) else if r.K [] = 8 then [108, 97, 116, 101, 32] ++ plV (r.K []) (r.N []) (r.C []) else if r.K [] = 9 then [101, 110, 100, 101, 100, 32] ++ plV (r.K []) (r.N []) (r.C [])
  else if r.K [] = 10 then [100, 111, 110, 101, 32] ++ Lib.itoa (r.N []) ++ flV (r.E []) else [63]
def rgV (r : RF) : Bool := inR (r.N []) && (inR (r.C []) && (inR (r.V []) && (inR (r.O []) && (inR (r.nc []) && (inR (r.ns []) && inR (r.no []))))))
def shV (r : RF) (T : Ix → List UInt8) : Bool := decide ((r.X []).length ≤ 500) && fewB (r.L []) T 12 200
theorem ntV_len {W : Ix → List UInt8} (h : wdOK W = true) {a b c d : Int} (on : Bool) (hb : inR b = true) (hc : inR c = true) (hd : inR d = true) : (ntV W a b c d on).length ≤ 80 := by
  have h1 := cmdV_len h hb
  have h2 := sidV_len hc
  have h3 := optV_len hd
  unfold ntV
  repeat' split
  all_goals simp only [List.length_append, List.length_cons, List.length_nil]
  all_goals omega
theorem plV_len {k n c : Int} (hn : inR n = true) (hc : inR c = true) : (plV k n c).length ≤ 60 := by
  have h1 := itoa_len hn
  have h2 := itoa_len hc
  unfold plV
  split <;> simp only [List.length_append, List.length_cons, List.length_nil] <;> omega
theorem xnum_in (k : Nat) : inR (xnum k) = true := by
  unfold xnum inR
  exact decide_eq_true (by split <;> omega)
theorem flV_len (k : Nat) : (flV k).length ≤ 30 := by
  have := itoa_len (xnum_in k)
  unfold flV
  split <;> simp only [List.length_append, List.length_cons, List.length_nil] <;> omega
theorem quoT_len (b : List UInt8) : (quoT b).length ≤ 2 + 4 * b.length := by
  have := tolT_len b b.length
  rw [quoT, List.length_append, List.length_singleton]; omega
theorem few_at {n : Nat} {T : Ix → List UInt8} {a b : Int} (h : fewB n T a b = true) : (n : Int) ≤ a ∧ ∀ q, q < n → ((T [q]).length : Int) ≤ b := by
  unfold fewB at h
  simp only [Bool.and_eq_true, decide_eq_true_eq] at h
  exact ⟨h.1, fun q hq => of_decide_eq_true (List.all_eq_true.1 h.2 q (List.mem_range.2 hq))⟩
theorem chV_len {p : List UInt8} {T : Ix → List UInt8} {n : Nat} (hp : p.length ≤ 60) (hT : ∀ q, q < n → ((T [q]).length : Int) ≤ 200) : ∀ q, q ≤ n → (chV p T q).length ≤ 66 + 803 * q
  | 0, _ => by
    rw [chV, List.length_append]; simp only [List.length_cons, List.length_nil]; omega
  | q + 1, h => by
    have h1 := chV_len hp hT q (by omega)
    have h2 := hT q (by omega)
    have h3 := quoT_len (T [q])
    rw [chV]; simp only [List.length_append, List.length_cons, List.length_nil]; omega
def sumsJC : List (FuncId × Summ) := [(101, zitP.summ 46), (102, zcmP.summ 46), (103, zopP.summ 46), (127, zsiP.summ 46), (110, xS)]
theorem baseJC : Base0 Tryd.prog sumsJC := (((((baseO.cons Tryd.func110 (by kernel_rfl) xnb_ok).cons Tryd.func127 (by kernel_rfl) (PC.summ_ok zsiP_pc gtopG)).cons Tryd.func103 (by kernel_rfl) (PC.summ_ok zopP_pc gtopG)).cons Tryd.func102 (by kernel_rfl) (PC.summ_ok zcmP_pc gtopG)).cons Tryd.func101 (by kernel_rfl) (PC.summ_ok zitP_pc gtopG))
theorem znt_p0 (F : Ix → Int) (W : Ix → List UInt8) (a b c d : Int) (on : Bool) :
    isEnd (evTill Tryd.prog sumsJC 400 (99) 900 105 [.code (bodyOf Tryd.f105)] (envOf [.agg (.tc (.vi .i64 fun _ => a) (.tc (.vi .i64 fun _ => b) (.tc (.vi .i64 fun _ => c) (.tc (.vi .i64 fun _ => d) (.tc (.vb fun _ => on) .t0)))))] Tryd.f105.ntmps) ((pwF F ++ wdE W) ++ ([])) ⟨[.s false, .s false, .s false, .s false, .s false], 80⟩) (endP ([]) (vS (ntV W a b c d on)) ([]) 240) =
    (OkL [(a == (1 : Int), false), (a == (2 : Int), false), (a == (3 : Int), false), (a == (4 : Int), false), (a == (5 : Int), false)] ∧ ntV W a b c d on = [(63 : UInt8)] ∧ True) := by kernel_rfl
theorem znt_p1 (F : Ix → Int) (W : Ix → List UInt8) (a b c d : Int) (on : Bool) :
    isEnd (evTill Tryd.prog sumsJC 400 (99) 900 105 [.code (bodyOf Tryd.f105)] (envOf [.agg (.tc (.vi .i64 fun _ => a) (.tc (.vi .i64 fun _ => b) (.tc (.vi .i64 fun _ => c) (.tc (.vi .i64 fun _ => d) (.tc (.vb fun _ => on) .t0)))))] Tryd.f105.ntmps) ((pwF F ++ wdE W) ++ ([])) ⟨[.s false, .s false, .s false, .s false, .s true, .s true, .s true], 80⟩) (endP ([]) (vS (ntV W a b c d on)) ([]) 240) =
    (OkL [(a == (1 : Int), false), (a == (2 : Int), false), (a == (3 : Int), false), (a == (4 : Int), false), (a == (5 : Int), true), (pwOK F && inR d, true), (decide ((8 : Nat) + (optV d).length ≤ (9223372036854775807 : Nat)), true)] ∧ ntV W a b c d on = [(100 : UInt8), (114 : UInt8), (111 : UInt8), (112 : UInt8), (112 : UInt8), (101 : UInt8), (100 : UInt8), (32 : UInt8)] ++ optV d ∧ True) := by kernel_rfl
theorem znt_p2 (F : Ix → Int) (W : Ix → List UInt8) (a b c d : Int) (on : Bool) :
    isEnd (evTill Tryd.prog sumsJC 400 (99) 900 105 [.code (bodyOf Tryd.f105)] (envOf [.agg (.tc (.vi .i64 fun _ => a) (.tc (.vi .i64 fun _ => b) (.tc (.vi .i64 fun _ => c) (.tc (.vi .i64 fun _ => d) (.tc (.vb fun _ => on) .t0)))))] Tryd.f105.ntmps) ((pwF F ++ wdE W) ++ ([])) ⟨[.s false, .s false, .s false, .s true, .s true, .s true, .s true, .s true, .s true], 80⟩) (endP ([]) (vS (ntV W a b c d on)) ([]) 240) =
    (OkL [(a == (1 : Int), false), (a == (2 : Int), false), (a == (3 : Int), false), (a == (4 : Int), true), (pwOK F && inR c, true), (decide ((6 : Nat) + (sidV c).length ≤ (9223372036854775807 : Nat)), true), (decide (([(119 : UInt8), (114 : UInt8), (111 : UInt8), (110 : UInt8), (103 : UInt8), (32 : UInt8)] ++ sidV c).length + (1 : Nat) ≤ (9223372036854775807 : Nat)), true), (pwOK F && inR d, true), (decide (([(119 : UInt8), (114 : UInt8), (111 : UInt8), (110 : UInt8), (103 : UInt8), (32 : UInt8)] ++ sidV c ++ [(32 : UInt8)]).length + (optV d).length ≤ (9223372036854775807 : Nat)), true)] ∧ ntV W a b c d on = [(119 : UInt8), (114 : UInt8), (111 : UInt8), (110 : UInt8), (103 : UInt8), (32 : UInt8)] ++ sidV c ++ [(32 : UInt8)] ++ optV d ∧ True) := by kernel_rfl
theorem znt_p3 (F : Ix → Int) (W : Ix → List UInt8) (a b c d : Int) (on : Bool) :
    isEnd (evTill Tryd.prog sumsJC 400 (99) 900 105 [.code (bodyOf Tryd.f105)] (envOf [.agg (.tc (.vi .i64 fun _ => a) (.tc (.vi .i64 fun _ => b) (.tc (.vi .i64 fun _ => c) (.tc (.vi .i64 fun _ => d) (.tc (.vb fun _ => on) .t0)))))] Tryd.f105.ntmps) ((pwF F ++ wdE W) ++ ([])) ⟨[.s false, .s false, .s true, .s false, .s true, .s true, .s true, .s true, .s true, .s true, .s true], 80⟩) (endP ([]) (vS (ntV W a b c d on)) ([]) 240) =
    (OkL [(a == (1 : Int), false), (a == (2 : Int), false), (a == (3 : Int), true), (on, false), (pwOK F && inR c, true), (decide ((7 : Nat) + (sidV c).length ≤ (9223372036854775807 : Nat)), true), (decide (([(116 : UInt8), (117 : UInt8), (114 : UInt8), (110 : UInt8), (101 : UInt8), (100 : UInt8), (32 : UInt8)] ++ sidV c).length + (1 : Nat) ≤ (9223372036854775807 : Nat)), true), (pwOK F && inR d, true), (decide (([(116 : UInt8), (117 : UInt8), (114 : UInt8), (110 : UInt8), (101 : UInt8), (100 : UInt8), (32 : UInt8)] ++ sidV c ++ [(32 : UInt8)]).length + (optV d).length ≤ (9223372036854775807 : Nat)), true), (decide (([(116 : UInt8), (117 : UInt8), (114 : UInt8), (110 : UInt8), (101 : UInt8), (100 : UInt8), (32 : UInt8)] ++ sidV c ++ [(32 : UInt8)] ++ optV d).length + (1 : Nat) ≤ (9223372036854775807 : Nat)), true), (decide (([(116 : UInt8), (117 : UInt8), (114 : UInt8), (110 : UInt8), (101 : UInt8), (100 : UInt8), (32 : UInt8)] ++ sidV c ++ [(32 : UInt8)] ++ optV d ++ [(32 : UInt8)]).length + (3 : Nat) ≤ (9223372036854775807 : Nat)), true)] ∧ ntV W a b c d on = [(116 : UInt8), (117 : UInt8), (114 : UInt8), (110 : UInt8), (101 : UInt8), (100 : UInt8), (32 : UInt8)] ++ sidV c ++ [(32 : UInt8)] ++ optV d ++ [(32 : UInt8)] ++ [(111 : UInt8), (102 : UInt8), (102 : UInt8)] ∧ True) := by kernel_rfl
theorem znt_p4 (F : Ix → Int) (W : Ix → List UInt8) (a b c d : Int) (on : Bool) :
    isEnd (evTill Tryd.prog sumsJC 400 (99) 900 105 [.code (bodyOf Tryd.f105)] (envOf [.agg (.tc (.vi .i64 fun _ => a) (.tc (.vi .i64 fun _ => b) (.tc (.vi .i64 fun _ => c) (.tc (.vi .i64 fun _ => d) (.tc (.vb fun _ => on) .t0)))))] Tryd.f105.ntmps) ((pwF F ++ wdE W) ++ ([])) ⟨[.s false, .s false, .s true, .s true, .s true, .s true, .s true, .s true, .s true, .s true, .s true], 80⟩) (endP ([]) (vS (ntV W a b c d on)) ([]) 240) =
    (OkL [(a == (1 : Int), false), (a == (2 : Int), false), (a == (3 : Int), true), (on, true), (pwOK F && inR c, true), (decide ((7 : Nat) + (sidV c).length ≤ (9223372036854775807 : Nat)), true), (decide (([(116 : UInt8), (117 : UInt8), (114 : UInt8), (110 : UInt8), (101 : UInt8), (100 : UInt8), (32 : UInt8)] ++ sidV c).length + (1 : Nat) ≤ (9223372036854775807 : Nat)), true), (pwOK F && inR d, true), (decide (([(116 : UInt8), (117 : UInt8), (114 : UInt8), (110 : UInt8), (101 : UInt8), (100 : UInt8), (32 : UInt8)] ++ sidV c ++ [(32 : UInt8)]).length + (optV d).length ≤ (9223372036854775807 : Nat)), true), (decide (([(116 : UInt8), (117 : UInt8), (114 : UInt8), (110 : UInt8), (101 : UInt8), (100 : UInt8), (32 : UInt8)] ++ sidV c ++ [(32 : UInt8)] ++ optV d).length + (1 : Nat) ≤ (9223372036854775807 : Nat)), true), (decide (([(116 : UInt8), (117 : UInt8), (114 : UInt8), (110 : UInt8), (101 : UInt8), (100 : UInt8), (32 : UInt8)] ++ sidV c ++ [(32 : UInt8)] ++ optV d ++ [(32 : UInt8)]).length + (2 : Nat) ≤ (9223372036854775807 : Nat)), true)] ∧ ntV W a b c d on = [(116 : UInt8), (117 : UInt8), (114 : UInt8), (110 : UInt8), (101 : UInt8), (100 : UInt8), (32 : UInt8)] ++ sidV c ++ [(32 : UInt8)] ++ optV d ++ [(32 : UInt8)] ++ [(111 : UInt8), (110 : UInt8)] ∧ True) := by kernel_rfl
theorem znt_p5 (F : Ix → Int) (W : Ix → List UInt8) (a b c d : Int) (on : Bool) :
    isEnd (evTill Tryd.prog sumsJC 400 (99) 900 105 [.code (bodyOf Tryd.f105)] (envOf [.agg (.tc (.vi .i64 fun _ => a) (.tc (.vi .i64 fun _ => b) (.tc (.vi .i64 fun _ => c) (.tc (.vi .i64 fun _ => d) (.tc (.vb fun _ => on) .t0)))))] Tryd.f105.ntmps) ((pwF F ++ wdE W) ++ ([])) ⟨[.s false, .s true, .s true, .s true], 80⟩) (endP ([]) (vS (ntV W a b c d on)) ([]) 240) =
    (OkL [(a == (1 : Int), false), (a == (2 : Int), true), (pwOK F && inR b, true), (decide ((7 : Nat) + (cmdV W b).length ≤ (9223372036854775807 : Nat)), true)] ∧ ntV W a b c d on = [(109 : UInt8), (97 : UInt8), (114 : UInt8), (107 : UInt8), (101 : UInt8), (100 : UInt8), (32 : UInt8)] ++ cmdV W b ∧ True) := by kernel_rfl
theorem znt_p6 (F : Ix → Int) (W : Ix → List UInt8) (a b c d : Int) (on : Bool) :
    isEnd (evTill Tryd.prog sumsJC 400 (99) 900 105 [.code (bodyOf Tryd.f105)] (envOf [.agg (.tc (.vi .i64 fun _ => a) (.tc (.vi .i64 fun _ => b) (.tc (.vi .i64 fun _ => c) (.tc (.vi .i64 fun _ => d) (.tc (.vb fun _ => on) .t0)))))] Tryd.f105.ntmps) ((pwF F ++ wdE W) ++ ([])) ⟨[.s true, .s true, .s true], 80⟩) (endP ([]) (vS (ntV W a b c d on)) ([]) 240) =
    (OkL [(a == (1 : Int), true), (pwOK F && inR b, true), (decide ((8 : Nat) + (cmdV W b).length ≤ (9223372036854775807 : Nat)), true)] ∧ ntV W a b c d on = [(99 : UInt8), (111 : UInt8), (109 : UInt8), (109 : UInt8), (97 : UInt8), (110 : UInt8), (100 : UInt8), (32 : UInt8)] ++ cmdV W b ∧ True) := by kernel_rfl

set_option maxHeartbeats 4000000 in
theorem znt (F : Ix → Int) (W : Ix → List UInt8) (a b c d : Int) (on : Bool) (hF : pwOK F = true) (hW : wdOK W = true) (hb : inR b = true) (hc : inR c = true) (hd : inR d = true)  :
    RunsTo Tryd.prog 105 [.code (bodyOf Tryd.f105)] (envOf [.agg (.tc (.vi .i64 fun _ => a) (.tc (.vi .i64 fun _ => b) (.tc (.vi .i64 fun _ => c) (.tc (.vi .i64 fun _ => d) (.tc (.vb fun _ => on) .t0)))))] Tryd.f105.ntmps) (Sx.look ((pwF F ++ wdE W) ++ ([]))) 80 (vS (ntV W a b c d on)) (Sx.look ([])) 240 := by
  have l1 := cmdV_len hW hb
  have l2 := sidV_len hc
  have l3 := optV_len hd
  refine bcase (c := (a == (1 : Int))) (fun gg0 => ?_) (fun gg0 => ?_)
  · refine bcase (c := (a == (2 : Int))) (fun gg1 => ?_) (fun gg1 => ?_)
    · refine bcase (c := (a == (3 : Int))) (fun gg2 => ?_) (fun gg2 => ?_)
      · refine bcase (c := (a == (4 : Int))) (fun gg3 => ?_) (fun gg3 => ?_)
        · refine bcase (c := (a == (5 : Int))) (fun gg4 => ?_) (fun gg4 => ?_)
          · refine runs_last baseJC (Sx.Ends.of (znt_p0 F W a b c d on) ⟨?oo, ?rr⟩) (by kernel_rfl) rfl (gtL (by decide)) (by decide)
            case oo =>
              refine (okc gg0 (okc gg1 (okc gg2 (okc gg3 (okc gg4 okn)))))
              all_goals first | omega | assumption | exact ⟨hF, hb⟩ | exact ⟨hF, hc⟩ | exact ⟨hF, hd⟩ | (simp (disch := omega) only [SS, List.length_append, List.length_cons, List.length_nil]; first | done | omega | assumption | exact ⟨hF, hb⟩ | exact ⟨hF, hc⟩ | exact ⟨hF, hd⟩) | (simp_all; done) | (simp_all; omega)
            case rr =>
              refine ⟨?_, trivial⟩
              simp only [ntV]
              first | (simp_all; done) | rfl
          · refine runs_last baseJC (Sx.Ends.of (znt_p1 F W a b c d on) ⟨?oo, ?rr⟩) (by kernel_rfl) rfl (gtL (by decide)) (by decide)
            case oo =>
              refine (okc gg0 (okc gg1 (okc gg2 (okc gg3 (okc gg4 (okc ?_ (okc ?_ okn)))))))
              all_goals first | omega | assumption | exact ⟨hF, hb⟩ | exact ⟨hF, hc⟩ | exact ⟨hF, hd⟩ | (simp (disch := omega) only [SS, List.length_append, List.length_cons, List.length_nil]; first | done | omega | assumption | exact ⟨hF, hb⟩ | exact ⟨hF, hc⟩ | exact ⟨hF, hd⟩) | (simp_all; done) | (simp_all; omega)
            case rr =>
              refine ⟨?_, trivial⟩
              simp only [ntV]
              first | (simp_all; done) | rfl
        · refine runs_last baseJC (Sx.Ends.of (znt_p2 F W a b c d on) ⟨?oo, ?rr⟩) (by kernel_rfl) rfl (gtL (by decide)) (by decide)
          case oo =>
            refine (okc gg0 (okc gg1 (okc gg2 (okc gg3 (okc ?_ (okc ?_ (okc ?_ (okc ?_ (okc ?_ okn)))))))))
            all_goals first | omega | assumption | exact ⟨hF, hb⟩ | exact ⟨hF, hc⟩ | exact ⟨hF, hd⟩ | (simp (disch := omega) only [SS, List.length_append, List.length_cons, List.length_nil]; first | done | omega | assumption | exact ⟨hF, hb⟩ | exact ⟨hF, hc⟩ | exact ⟨hF, hd⟩) | (simp_all; done) | (simp_all; omega)
          case rr =>
            refine ⟨?_, trivial⟩
            simp only [ntV]
            first | (simp_all; done) | rfl
      · refine bcase (c := (on)) (fun gg3 => ?_) (fun gg3 => ?_)
        · refine runs_last baseJC (Sx.Ends.of (znt_p3 F W a b c d on) ⟨?oo, ?rr⟩) (by kernel_rfl) rfl (gtL (by decide)) (by decide)
          case oo =>
            refine (okc gg0 (okc gg1 (okc gg2 (okc gg3 (okc ?_ (okc ?_ (okc ?_ (okc ?_ (okc ?_ (okc ?_ (okc ?_ okn)))))))))))
            all_goals first | omega | assumption | exact ⟨hF, hb⟩ | exact ⟨hF, hc⟩ | exact ⟨hF, hd⟩ | (simp (disch := omega) only [SS, List.length_append, List.length_cons, List.length_nil]; first | done | omega | assumption | exact ⟨hF, hb⟩ | exact ⟨hF, hc⟩ | exact ⟨hF, hd⟩) | (simp_all; done) | (simp_all; omega)
          case rr =>
            refine ⟨?_, trivial⟩
            simp only [ntV]
            first | (simp_all; done) | rfl
        · refine runs_last baseJC (Sx.Ends.of (znt_p4 F W a b c d on) ⟨?oo, ?rr⟩) (by kernel_rfl) rfl (gtL (by decide)) (by decide)
          case oo =>
            refine (okc gg0 (okc gg1 (okc gg2 (okc gg3 (okc ?_ (okc ?_ (okc ?_ (okc ?_ (okc ?_ (okc ?_ (okc ?_ okn)))))))))))
            all_goals first | omega | assumption | exact ⟨hF, hb⟩ | exact ⟨hF, hc⟩ | exact ⟨hF, hd⟩ | (simp (disch := omega) only [SS, List.length_append, List.length_cons, List.length_nil]; first | done | omega | assumption | exact ⟨hF, hb⟩ | exact ⟨hF, hc⟩ | exact ⟨hF, hd⟩) | (simp_all; done) | (simp_all; omega)
          case rr =>
            refine ⟨?_, trivial⟩
            simp only [ntV]
            first | (simp_all; done) | rfl
    · refine runs_last baseJC (Sx.Ends.of (znt_p5 F W a b c d on) ⟨?oo, ?rr⟩) (by kernel_rfl) rfl (gtL (by decide)) (by decide)
      case oo =>
        refine (okc gg0 (okc gg1 (okc ?_ (okc ?_ okn))))
        all_goals first | omega | assumption | exact ⟨hF, hb⟩ | exact ⟨hF, hc⟩ | exact ⟨hF, hd⟩ | (simp (disch := omega) only [SS, List.length_append, List.length_cons, List.length_nil]; first | done | omega | assumption | exact ⟨hF, hb⟩ | exact ⟨hF, hc⟩ | exact ⟨hF, hd⟩) | (simp_all; done) | (simp_all; omega)
      case rr =>
        refine ⟨?_, trivial⟩
        simp only [ntV]
        first | (simp_all; done) | rfl
  · refine runs_last baseJC (Sx.Ends.of (znt_p6 F W a b c d on) ⟨?oo, ?rr⟩) (by kernel_rfl) rfl (gtL (by decide)) (by decide)
    case oo =>
      refine (okc gg0 (okc ?_ (okc ?_ okn)))
      all_goals first | omega | assumption | exact ⟨hF, hb⟩ | exact ⟨hF, hc⟩ | exact ⟨hF, hd⟩ | (simp (disch := omega) only [SS, List.length_append, List.length_cons, List.length_nil]; first | done | omega | assumption | exact ⟨hF, hb⟩ | exact ⟨hF, hc⟩ | exact ⟨hF, hd⟩) | (simp_all; done) | (simp_all; omega)
    case rr =>
      refine ⟨?_, trivial⟩
      simp only [ntV]
      first | (simp_all; done) | rfl

def zntP : PC := { args := [.agg (.tc (.vi .i64 0) (.tc (.vi .i64 1) (.tc (.vi .i64 2) (.tc (.vi .i64 3) (.tc (.vb 4) .t0)))))], heap := [], fams := [], tabs := [⟨19, false, 20, .tn 20 (.vi .u64 9)⟩, ⟨16, false, 16, .tn 16 (.vs 8)⟩], gs := [], G := 23, tp := 213, n := 80, n' := 240, cond := fun e => pwOK (eI e 9) && (wdOK (eS e 8) && (inR (eI e 1 []) && (inR (eI e 2 []) && inR (eI e 3 [])))), v := fun e => vS (ntV (eS e 8) (eI e 0 []) (eI e 1 []) (eI e 2 []) (eI e 3 []) (eB e 4 [])), post := fun e => [] }
theorem zntP_pc : PC.Runs Tryd.prog 105 Tryd.f105 (bodyOf Tryd.f105) zntP := ⟨Tryd.func105, by kernel_rfl, (fun g hg => by first | (cases hg; done) | (revert g; show ∀ g ∈ ([] : List Nat), g < 23; decide)), fun e H hc => by
  have hc : (pwOK (eI e 9) && (wdOK (eS e 8) && (inR (eI e 1 []) && (inR (eI e 2 []) && inR (eI e 3 []))))) = true := hc
  try simp only [Bool.and_eq_true, decide_eq_true_eq, Nat.beq_eq] at hc
  exact znt (eI e 9) (eS e 8) (eI e 0 []) (eI e 1 []) (eI e 2 []) (eI e 3 []) (eB e 4 []) hc.1 hc.2.1 hc.2.2.1 hc.2.2.2.1 hc.2.2.2.2⟩
end Go.Proofs.YtaleenklamognaaDoor

set_option linter.unusedSimpArgs false
set_option linter.unusedVariables false
set_option maxRecDepth 100000
namespace Go.Proofs.YtaleenklamognaaDoor
open Go.Sx

open WordR
theorem zpl_p0 (F : Ix → Int) (r : RF) (M : Nat) (T : Ix → List UInt8) :
    isEnd (evTill Tryd.prog sumsJC 300 (99) 900 106 [.code (bodyOf Tryd.f106)] (envOf [.agg (enT 61 r.one)] Tryd.f106.ntmps) (([⟨61, false, none, 1, .ta M (.vs T)⟩] ++ pwF F) ++ ([])) ⟨[.s false, .s true, .s true, .s true, .s true], 80⟩) (endP ([]) (vS (plV (r.K []) (r.N []) (r.C []))) ([]) 170) =
    (OkL [(decide (cs r.3 [] < (0 : Int)), false), (pwOK F && inR (cs r.2 []), true), (decide ((Lib.itoa (cs r.2 [])).length + (1 : Nat) ≤ (9223372036854775807 : Nat)), true), (pwOK F && inR (cs r.3 []), true), (decide ((Lib.itoa (cs r.2 []) ++ [(46 : UInt8)]).length + (Lib.itoa (cs r.3 [])).length ≤ (9223372036854775807 : Nat)), true)] ∧ plV (r.1 []) (r.2 []) (r.3 []) = Lib.itoa (cs r.2 []) ++ [(46 : UInt8)] ++ Lib.itoa (cs r.3 []) ∧ True) := by kernel_rfl
theorem zpl_p1 (F : Ix → Int) (r : RF) (M : Nat) (T : Ix → List UInt8) :
    isEnd (evTill Tryd.prog sumsJC 300 (99) 900 106 [.code (bodyOf Tryd.f106)] (envOf [.agg (enT 61 r.one)] Tryd.f106.ntmps) (([⟨61, false, none, 1, .ta M (.vs T)⟩] ++ pwF F) ++ ([])) ⟨[.s true, .s false, .s true, .s true, .s true, .s true], 80⟩) (endP ([]) (vS (plV (r.K []) (r.N []) (r.C []))) ([]) 170) =
    (OkL [(decide (cs r.3 [] < (0 : Int)), true), (cs r.1 [] != (7 : Int), false), (pwOK F && inR (cs r.2 []), true), (decide ((Lib.itoa (cs r.2 [])).length + (1 : Nat) ≤ (9223372036854775807 : Nat)), true), (pwOK F && inR (cs r.3 []), true), (decide ((Lib.itoa (cs r.2 []) ++ [(46 : UInt8)]).length + (Lib.itoa (cs r.3 [])).length ≤ (9223372036854775807 : Nat)), true)] ∧ plV (r.1 []) (r.2 []) (r.3 []) = Lib.itoa (cs r.2 []) ++ [(46 : UInt8)] ++ Lib.itoa (cs r.3 []) ∧ True) := by kernel_rfl
theorem zpl_p2 (F : Ix → Int) (r : RF) (M : Nat) (T : Ix → List UInt8) :
    isEnd (evTill Tryd.prog sumsJC 300 (99) 900 106 [.code (bodyOf Tryd.f106)] (envOf [.agg (enT 61 r.one)] Tryd.f106.ntmps) (([⟨61, false, none, 1, .ta M (.vs T)⟩] ++ pwF F) ++ ([])) ⟨[.s true, .s true, .s true, .s true], 80⟩) (endP ([]) (vS (plV (r.K []) (r.N []) (r.C []))) ([]) 170) =
    (OkL [(decide (cs r.3 [] < (0 : Int)), true), (cs r.1 [] != (7 : Int), true), (pwOK F && inR (cs r.2 []), true), (decide ((Lib.itoa (cs r.2 [])).length + (5 : Nat) ≤ (9223372036854775807 : Nat)), true)] ∧ plV (r.1 []) (r.2 []) (r.3 []) = Lib.itoa (cs r.2 []) ++ [(46 : UInt8), (112 : UInt8), (97 : UInt8), (115 : UInt8), (115 : UInt8)] ∧ True) := by kernel_rfl

set_option maxHeartbeats 4000000 in
theorem zpl (F : Ix → Int) (r : RF) (M : Nat) (T : Ix → List UInt8) (hF : pwOK F = true) (hn : inR (r.N []) = true) (hc : inR (r.C []) = true)  :
    RunsTo Tryd.prog 106 [.code (bodyOf Tryd.f106)] (envOf [.agg (enT 61 r.one)] Tryd.f106.ntmps) (Sx.look (([⟨61, false, none, 1, .ta M (.vs T)⟩] ++ pwF F) ++ ([]))) 80 (vS (plV (r.K []) (r.N []) (r.C []))) (Sx.look ([])) 170 := by
  have l1 := itoa_len hn
  have l2 := itoa_len hc
  have hn' : inR (cs r.N []) = true := hn
  have hc' : inR (cs r.C []) = true := hc
  have l1' : (Lib.itoa (cs r.N [])).length ≤ 21 := l1
  have l2' : (Lib.itoa (cs r.C [])).length ≤ 21 := l2
  refine bcase (c := (decide (cs r.3 [] < (0 : Int)))) (fun gg0 => ?_) (fun gg0 => ?_)
  · refine runs_last baseJC (Sx.Ends.of (zpl_p0 F r M T) ⟨?oo, ?rr⟩) (by kernel_rfl) rfl (gtL (by decide)) (by decide)
    case oo =>
      refine (okc gg0 (okc ?_ (okc ?_ (okc ?_ (okc ?_ okn)))))
      all_goals first | omega | assumption | exact ⟨hF, hn⟩ | exact ⟨hF, hc⟩ | (simp (disch := omega) only [SS, List.length_append, List.length_cons, List.length_nil]; first | done | omega | assumption | exact ⟨hF, hn⟩ | exact ⟨hF, hc⟩) | (simp only [cs] at *; simp_all; done) | (simp_all; done) | (simp_all; omega)
    case rr =>
      refine ⟨?_, trivial⟩
      simp only [plV]
      simp only [decide_eq_true_eq, decide_eq_false_iff_not, bne_iff_ne, ne_eq, bne_eq_false_iff_eq] at *
      simp only [cs] at *
      first | (rw [if_pos (by omega)]; done) | (rw [if_neg (by omega)]; done)
  · refine bcase (c := (cs r.1 [] != (7 : Int))) (fun gg1 => ?_) (fun gg1 => ?_)
    · refine runs_last baseJC (Sx.Ends.of (zpl_p1 F r M T) ⟨?oo, ?rr⟩) (by kernel_rfl) rfl (gtL (by decide)) (by decide)
      case oo =>
        refine (okc gg0 (okc gg1 (okc ?_ (okc ?_ (okc ?_ (okc ?_ okn))))))
        all_goals first | omega | assumption | exact ⟨hF, hn⟩ | exact ⟨hF, hc⟩ | (simp (disch := omega) only [SS, List.length_append, List.length_cons, List.length_nil]; first | done | omega | assumption | exact ⟨hF, hn⟩ | exact ⟨hF, hc⟩) | (simp only [cs] at *; simp_all; done) | (simp_all; done) | (simp_all; omega)
      case rr =>
        refine ⟨?_, trivial⟩
        simp only [plV]
        simp only [decide_eq_true_eq, decide_eq_false_iff_not, bne_iff_ne, ne_eq, bne_eq_false_iff_eq] at *
        simp only [cs] at *
        first | (rw [if_pos (by omega)]; done) | (rw [if_neg (by omega)]; done)
    · refine runs_last baseJC (Sx.Ends.of (zpl_p2 F r M T) ⟨?oo, ?rr⟩) (by kernel_rfl) rfl (gtL (by decide)) (by decide)
      case oo =>
        refine (okc gg0 (okc gg1 (okc ?_ (okc ?_ okn))))
        all_goals first | omega | assumption | exact ⟨hF, hn⟩ | exact ⟨hF, hc⟩ | (simp (disch := omega) only [SS, List.length_append, List.length_cons, List.length_nil]; first | done | omega | assumption | exact ⟨hF, hn⟩ | exact ⟨hF, hc⟩) | (simp only [cs] at *; simp_all; done) | (simp_all; done) | (simp_all; omega)
      case rr =>
        refine ⟨?_, trivial⟩
        simp only [plV]
        simp only [decide_eq_true_eq, decide_eq_false_iff_not, bne_iff_ne, ne_eq, bne_eq_false_iff_eq] at *
        simp only [cs] at *
        first | (rw [if_pos (by omega)]; done) | (rw [if_neg (by omega)]; done)

def zplP : PC := { args := [.agg (.tc (.vi .i64 10) (.tc (.vi .i64 11) (.tc (.vi .i64 12) (.tc (.vs 13) (.tc (.vl 61 1 14) (.tc (.tc (.vi .i64 15) (.tc (.vi .i64 16) (.tc (.vi .i64 17) (.tc (.vi .i64 18) (.tc (.vb 19) .t0))))) (.tc (.vi .i64 20) (.tc (.vi .i64 21) (.tc (.vx 213 errL 22) .t0)))))))))], heap := [⟨61, false, 1, .ta 40 (.vs 41)⟩], fams := [], tabs := [⟨19, false, 20, .tn 20 (.vi .u64 9)⟩], gs := [], G := 23, tp := 213, n := 80, n' := 170, cond := fun e => pwOK (eI e 9) && (inR ((⟨eI e 10, eI e 11, eI e 12, eS e 13, fun _ => 0, fun _ => eN e 14, eI e 15, eI e 16, eI e 17, eI e 18, eB e 19, eI e 20, eI e 21, eM e 22, fun _ => 0⟩ : RF).N []) && inR ((⟨eI e 10, eI e 11, eI e 12, eS e 13, fun _ => 0, fun _ => eN e 14, eI e 15, eI e 16, eI e 17, eI e 18, eB e 19, eI e 20, eI e 21, eM e 22, fun _ => 0⟩ : RF).C [])), v := fun e => vS (plV (eI e 10 []) (eI e 11 []) (eI e 12 [])), post := fun e => [] }
theorem zplP_pc : PC.Runs Tryd.prog 106 Tryd.f106 (bodyOf Tryd.f106) zplP := ⟨Tryd.func106, by kernel_rfl, (fun g hg => by first | (cases hg; done) | (revert g; show ∀ g ∈ ([] : List Nat), g < 23; decide)), fun e H hc => by
  have hc : (pwOK (eI e 9) && (inR ((⟨eI e 10, eI e 11, eI e 12, eS e 13, fun _ => 0, fun _ => eN e 14, eI e 15, eI e 16, eI e 17, eI e 18, eB e 19, eI e 20, eI e 21, eM e 22, fun _ => 0⟩ : RF).N []) && inR ((⟨eI e 10, eI e 11, eI e 12, eS e 13, fun _ => 0, fun _ => eN e 14, eI e 15, eI e 16, eI e 17, eI e 18, eB e 19, eI e 20, eI e 21, eM e 22, fun _ => 0⟩ : RF).C []))) = true := hc
  try simp only [Bool.and_eq_true, decide_eq_true_eq, Nat.beq_eq] at hc
  exact zpl (eI e 9) (⟨eI e 10, eI e 11, eI e 12, eS e 13, fun _ => 0, fun _ => eN e 14, eI e 15, eI e 16, eI e 17, eI e 18, eB e 19, eI e 20, eI e 21, eM e 22, fun _ => 0⟩ : RF) (eN e 40) (eS e 41) hc.1 hc.2.1 hc.2.2⟩
theorem zfl_p0 (H : List Ent) (F : Ix → Int) (k : Nat) :
    isEnd (evTill Tryd.prog sumsJC 300 (99) 900 104 [.code (bodyOf Tryd.f104)] (envOf [vX k] Tryd.f104.ntmps) (((sentEnts 23 213 (textsIn 23 H errG)) ++ pwF F) ++ ([])) ⟨[.s false, .s true, .s true], 80⟩) (endP ([]) (vS (flV k)) ([]) 180) =
    (OkL [(Nat.ble (16 : Nat) k, false), (pwOK F && inR (xnum k), true), (decide ((7 : Nat) + (Lib.itoa (xnum k)).length ≤ (9223372036854775807 : Nat)), true)] ∧ flV k = [(32 : UInt8), (101 : UInt8), (114 : UInt8), (114 : UInt8), (111 : UInt8), (114 : UInt8), (32 : UInt8)] ++ Lib.itoa (xnum k) ∧ True) := by kernel_rfl
theorem zfl_p1 (H : List Ent) (F : Ix → Int) (k : Nat) :
    isEnd (evTill Tryd.prog sumsJC 300 (99) 900 104 [.code (bodyOf Tryd.f104)] (envOf [vX k] Tryd.f104.ntmps) (((sentEnts 23 213 (textsIn 23 H errG)) ++ pwF F) ++ ([])) ⟨[.s true], 80⟩) (endP ([]) (vS (flV k)) ([]) 180) =
    (OkL [(Nat.ble (16 : Nat) k, true)] ∧ flV k = [] ∧ True) := by kernel_rfl

set_option maxHeartbeats 4000000 in
theorem zfl (H : List Ent) (F : Ix → Int) (k : Nat) (hF : pwOK F = true)  :
    RunsTo Tryd.prog 104 [.code (bodyOf Tryd.f104)] (envOf [vX k] Tryd.f104.ntmps) (Sx.look (((sentEnts 23 213 (textsIn 23 H errG)) ++ pwF F) ++ ([]))) 80 (vS (flV k)) (Sx.look ([])) 180 := by
  have hk := xnum_in k
  have l1 := itoa_len hk
  refine bcase (c := (Nat.ble (16 : Nat) k)) (fun gg0 => ?_) (fun gg0 => ?_)
  · refine runs_last baseJC (Sx.Ends.of (zfl_p0 H F k) ⟨?oo, ?rr⟩) (by kernel_rfl) rfl (gtL (by decide)) (by decide)
    case oo =>
      refine (okc gg0 (okc ?_ (okc ?_ okn)))
      all_goals first | omega | assumption | exact ⟨hF, hk⟩ | (simp (disch := omega) only [SS, List.length_append, List.length_cons, List.length_nil]; first | done | omega | assumption | exact ⟨hF, hk⟩) | (simp_all; done) | (simp_all; omega)
    case rr =>
      refine ⟨?_, trivial⟩
      simp only [flV]
      simp only [Bool.eq_false_iff, ne_eq, Nat.ble_eq] at *
      first | (simp_all; done) | rfl
  · refine runs_last baseJC (Sx.Ends.of (zfl_p1 H F k) ⟨?oo, ?rr⟩) (by kernel_rfl) rfl (gtL (by decide)) (by decide)
    case oo =>
      refine (okc gg0 okn)
      all_goals first | omega | assumption | exact ⟨hF, hk⟩ | (simp (disch := omega) only [SS, List.length_append, List.length_cons, List.length_nil]; first | done | omega | assumption | exact ⟨hF, hk⟩) | (simp_all; done) | (simp_all; omega)
    case rr =>
      refine ⟨?_, trivial⟩
      simp only [flV]
      simp only [Bool.eq_false_iff, ne_eq, Nat.ble_eq] at *
      first | (simp_all; done) | rfl

def zflP : PC := { args := [.v (.vx 213 errL 0)], heap := [], fams := [], tabs := [⟨19, false, 20, .tn 20 (.vi .u64 9)⟩], gs := [0, 1, 2, 3, 4, 5, 6, 7, 8, 9, 10, 11, 12, 13, 14, 15], G := 23, tp := 213, n := 80, n' := 180, cond := fun e => pwOK (eI e 9), v := fun e => vS (flV (eM e 0 [])), post := fun e => [] }
theorem zflP_pc : PC.Runs Tryd.prog 104 Tryd.f104 (bodyOf Tryd.f104) zflP := ⟨Tryd.func104, by kernel_rfl, (fun g hg => by first | (cases hg; done) | (revert g; show ∀ g ∈ ([0, 1, 2, 3, 4, 5, 6, 7, 8, 9, 10, 11, 12, 13, 14, 15] : List Nat), g < 23; decide)), fun e H hc => by
  have hc : (pwOK (eI e 9)) = true := hc
  try simp only [Bool.and_eq_true, decide_eq_true_eq, Nat.beq_eq] at hc
  exact zfl H (eI e 9) (eM e 0 []) hc⟩
end Go.Proofs.YtaleenklamognaaDoor

set_option linter.unusedSimpArgs false
set_option linter.unusedVariables false
set_option maxRecDepth 100000
namespace Go.Proofs.YtaleenklamognaaDoor
open Go.Sx

open WordR
def sumsJD : List (FuncId × Summ) := [(101, zitP.summ 46), (102, zcmP.summ 46), (103, zopP.summ 46), (105, zntP.summ 46), (106, zplP.summ 46), (104, zflP.summ 46), (46, tqP.summ 46)]
theorem baseJD : Base0 Tryd.prog sumsJD := (((((((baseO.cons Tryd.func46 (by kernel_rfl) (PC.summ_ok tqP_pc gtopG)).cons Tryd.func104 (by kernel_rfl) (PC.summ_ok zflP_pc gtopG)).cons Tryd.func106 (by kernel_rfl) (PC.summ_ok zplP_pc gtopG)).cons Tryd.func105 (by kernel_rfl) (PC.summ_ok zntP_pc gtopG)).cons Tryd.func103 (by kernel_rfl) (PC.summ_ok zopP_pc gtopG)).cons Tryd.func102 (by kernel_rfl) (PC.summ_ok zcmP_pc gtopG)).cons Tryd.func101 (by kernel_rfl) (PC.summ_ok zitP_pc gtopG))
theorem zln1_p0 (H : List Ent) (F : Ix → Int) (W : Ix → List UInt8) (r : RF) (M : Nat) (T : Ix → List UInt8) :
    isEnd (evTill Tryd.prog sumsJD 500 (99) 900 70 [.code (bodyOf Tryd.f70)] (envOf [.agg (enT 61 r.one)] Tryd.f70.ntmps) (((sentEnts 23 213 (textsIn 23 H errG)) ++ ([⟨61, false, none, 1, .ta M (.vs T)⟩] ++ (pwF F ++ wdE W))) ++ ([])) ⟨[.s true, .s true, .s true], 80⟩) (endP ([]) (vS (lnV W r T)) ([]) 400) =
    (OkL [(cs r.1 [] == (1 : Int), true), (decide ((cs r.4 []).length ≤ (100000 : Nat)), true), (decide ((5 : Nat) + (quoT (cs r.4 [])).length ≤ (9223372036854775807 : Nat)), true)] ∧ lnV W r T = [(115 : UInt8), (101 : UInt8), (110 : UInt8), (116 : UInt8), (32 : UInt8)] ++ quoT (cs r.4 []) ∧ True) := by kernel_rfl

set_option maxHeartbeats 4000000 in
theorem zln1 (H : List Ent) (F : Ix → Int) (W : Ix → List UInt8) (r : RF) (M : Nat) (T : Ix → List UInt8) (hF : pwOK F = true) (hW : wdOK W = true) (hM : r.L [] ≤ M) (hg : rgV r = true) (hs : shV r T = true) (hk : r.K [] = 1)  :
    RunsTo Tryd.prog 70 [.code (bodyOf Tryd.f70)] (envOf [.agg (enT 61 r.one)] Tryd.f70.ntmps) (Sx.look (((sentEnts 23 213 (textsIn 23 H errG)) ++ ([⟨61, false, none, 1, .ta M (.vs T)⟩] ++ (pwF F ++ wdE W))) ++ ([]))) 80 (vS (lnV W r T)) (Sx.look ([])) 400 := by
  obtain ⟨g1, g2, g3, g4, g5, g6, g7⟩ : inR (cs r.N []) = true ∧ inR (cs r.C []) = true ∧ inR (cs r.V []) = true ∧ inR (cs r.O []) = true ∧ inR (cs r.nc []) = true ∧ inR (cs r.ns []) = true ∧ inR (cs r.no []) = true := by
    have h := hg
    unfold rgV at h
    simp only [Bool.and_eq_true] at h
    exact h
  have hx : (cs r.X []).length ≤ 500 := by
    have h := hs
    unfold shV at h
    simp only [Bool.and_eq_true, decide_eq_true_eq] at h
    exact h.1
  have l1 := itoa_len g1
  have l3 := cmdV_len hW g3
  have l4 := optV_len g4
  have l5 := flV_len (cs r.E [])
  have l6 := quoT_len (cs r.X [])
  have l7 := plV_len (k := cs r.K []) g1 g2
  have l8 := ntV_len hW (a := cs r.nk []) (cs r.nb []) g5 g6 g7
  have hk' : cs r.K [] = 1 := hk
  refine runs_last baseJD (Sx.Ends.of (zln1_p0 H F W r M T) ⟨?oo, ?rr⟩) (by kernel_rfl) rfl (gtL (by decide)) (by decide)
  case oo =>
    refine (okc ?_ (okc ?_ (okc ?_ okn)))
    all_goals first | omega | assumption | exact ⟨hF, g1⟩ | exact ⟨hF, g1, g2⟩ | exact ⟨hF, g3⟩ | exact ⟨hF, g4⟩ | exact ⟨hF, hW, g5, g6, g7⟩ | (simp (disch := omega) only [SS, hk, List.length_append, List.length_cons, List.length_nil, hk']; first | done | omega | assumption | exact ⟨hF, g1⟩ | exact ⟨hF, g1, g2⟩ | exact ⟨hF, g3⟩ | exact ⟨hF, g4⟩ | exact ⟨hF, hW, g5, g6, g7⟩) | (simp_all; done) | (simp_all; omega)
  case rr =>
    refine ⟨?_, trivial⟩
    simp only [lnV]
    first | (simp only [hk]; rfl) | (simp only [cs]; simp [hk]; done)

theorem zln2_p0 (H : List Ent) (F : Ix → Int) (W : Ix → List UInt8) (r : RF) (M : Nat) (T : Ix → List UInt8) :
    isEnd (evTill Tryd.prog sumsJD 500 (99) 900 70 [.code (bodyOf Tryd.f70)] (envOf [.agg (enT 61 r.one)] Tryd.f70.ntmps) (((sentEnts 23 213 (textsIn 23 H errG)) ++ ([⟨61, false, none, 1, .ta M (.vs T)⟩] ++ (pwF F ++ wdE W))) ++ ([])) ⟨[.s false, .s true, .s true, .s true], 80⟩) (endP ([]) (vS (lnV W r T)) ([]) 400) =
    (OkL [(cs r.1 [] == (1 : Int), false), (cs r.1 [] == (2 : Int), true), (decide ((cs r.4 []).length ≤ (100000 : Nat)), true), (decide ((7 : Nat) + (quoT (cs r.4 [])).length ≤ (9223372036854775807 : Nat)), true)] ∧ lnV W r T = [(108 : UInt8), (111 : UInt8), (103 : UInt8), (103 : UInt8), (101 : UInt8), (100 : UInt8), (32 : UInt8)] ++ quoT (cs r.4 []) ∧ True) := by kernel_rfl

set_option maxHeartbeats 4000000 in
theorem zln2 (H : List Ent) (F : Ix → Int) (W : Ix → List UInt8) (r : RF) (M : Nat) (T : Ix → List UInt8) (hF : pwOK F = true) (hW : wdOK W = true) (hM : r.L [] ≤ M) (hg : rgV r = true) (hs : shV r T = true) (hk : r.K [] = 2)  :
    RunsTo Tryd.prog 70 [.code (bodyOf Tryd.f70)] (envOf [.agg (enT 61 r.one)] Tryd.f70.ntmps) (Sx.look (((sentEnts 23 213 (textsIn 23 H errG)) ++ ([⟨61, false, none, 1, .ta M (.vs T)⟩] ++ (pwF F ++ wdE W))) ++ ([]))) 80 (vS (lnV W r T)) (Sx.look ([])) 400 := by
  obtain ⟨g1, g2, g3, g4, g5, g6, g7⟩ : inR (cs r.N []) = true ∧ inR (cs r.C []) = true ∧ inR (cs r.V []) = true ∧ inR (cs r.O []) = true ∧ inR (cs r.nc []) = true ∧ inR (cs r.ns []) = true ∧ inR (cs r.no []) = true := by
    have h := hg
    unfold rgV at h
    simp only [Bool.and_eq_true] at h
    exact h
  have hx : (cs r.X []).length ≤ 500 := by
    have h := hs
    unfold shV at h
    simp only [Bool.and_eq_true, decide_eq_true_eq] at h
    exact h.1
  have l1 := itoa_len g1
  have l3 := cmdV_len hW g3
  have l4 := optV_len g4
  have l5 := flV_len (cs r.E [])
  have l6 := quoT_len (cs r.X [])
  have l7 := plV_len (k := cs r.K []) g1 g2
  have l8 := ntV_len hW (a := cs r.nk []) (cs r.nb []) g5 g6 g7
  have hk' : cs r.K [] = 2 := hk
  refine runs_last baseJD (Sx.Ends.of (zln2_p0 H F W r M T) ⟨?oo, ?rr⟩) (by kernel_rfl) rfl (gtL (by decide)) (by decide)
  case oo =>
    refine (okc ?_ (okc ?_ (okc ?_ (okc ?_ okn))))
    all_goals first | omega | assumption | exact ⟨hF, g1⟩ | exact ⟨hF, g1, g2⟩ | exact ⟨hF, g3⟩ | exact ⟨hF, g4⟩ | exact ⟨hF, hW, g5, g6, g7⟩ | (simp (disch := omega) only [SS, hk, List.length_append, List.length_cons, List.length_nil, hk']; first | done | omega | assumption | exact ⟨hF, g1⟩ | exact ⟨hF, g1, g2⟩ | exact ⟨hF, g3⟩ | exact ⟨hF, g4⟩ | exact ⟨hF, hW, g5, g6, g7⟩) | (simp_all; done) | (simp_all; omega)
  case rr =>
    refine ⟨?_, trivial⟩
    simp only [lnV]
    first | (simp only [hk]; rfl) | (simp only [cs]; simp [hk]; done)

theorem zln3_p0 (H : List Ent) (F : Ix → Int) (W : Ix → List UInt8) (r : RF) (M : Nat) (T : Ix → List UInt8) :
    isEnd (evTill Tryd.prog sumsJD 500 (99) 900 70 [.code (bodyOf Tryd.f70)] (envOf [.agg (enT 61 r.one)] Tryd.f70.ntmps) (((sentEnts 23 213 (textsIn 23 H errG)) ++ ([⟨61, false, none, 1, .ta M (.vs T)⟩] ++ (pwF F ++ wdE W))) ++ ([])) ⟨[.s false, .s false, .s true, .s true, .s true], 80⟩) (endP ([]) (vS (lnV W r T)) ([]) 400) =
    (OkL [(cs r.1 [] == (1 : Int), false), (cs r.1 [] == (2 : Int), false), (cs r.1 [] == (3 : Int), true), (pwOK F && inR (cs r.2 []), true), (decide ((8 : Nat) + (Lib.itoa (cs r.2 [])).length ≤ (9223372036854775807 : Nat)), true)] ∧ lnV W r T = [(114 : UInt8), (101 : UInt8), (115 : UInt8), (105 : UInt8), (122 : UInt8), (101 : UInt8), (100 : UInt8), (32 : UInt8)] ++ Lib.itoa (cs r.2 []) ∧ True) := by kernel_rfl

set_option maxHeartbeats 4000000 in
theorem zln3 (H : List Ent) (F : Ix → Int) (W : Ix → List UInt8) (r : RF) (M : Nat) (T : Ix → List UInt8) (hF : pwOK F = true) (hW : wdOK W = true) (hM : r.L [] ≤ M) (hg : rgV r = true) (hs : shV r T = true) (hk : r.K [] = 3)  :
    RunsTo Tryd.prog 70 [.code (bodyOf Tryd.f70)] (envOf [.agg (enT 61 r.one)] Tryd.f70.ntmps) (Sx.look (((sentEnts 23 213 (textsIn 23 H errG)) ++ ([⟨61, false, none, 1, .ta M (.vs T)⟩] ++ (pwF F ++ wdE W))) ++ ([]))) 80 (vS (lnV W r T)) (Sx.look ([])) 400 := by
  obtain ⟨g1, g2, g3, g4, g5, g6, g7⟩ : inR (cs r.N []) = true ∧ inR (cs r.C []) = true ∧ inR (cs r.V []) = true ∧ inR (cs r.O []) = true ∧ inR (cs r.nc []) = true ∧ inR (cs r.ns []) = true ∧ inR (cs r.no []) = true := by
    have h := hg
    unfold rgV at h
    simp only [Bool.and_eq_true] at h
    exact h
  have hx : (cs r.X []).length ≤ 500 := by
    have h := hs
    unfold shV at h
    simp only [Bool.and_eq_true, decide_eq_true_eq] at h
    exact h.1
  have l1 := itoa_len g1
  have l3 := cmdV_len hW g3
  have l4 := optV_len g4
  have l5 := flV_len (cs r.E [])
  have l6 := quoT_len (cs r.X [])
  have l7 := plV_len (k := cs r.K []) g1 g2
  have l8 := ntV_len hW (a := cs r.nk []) (cs r.nb []) g5 g6 g7
  have hk' : cs r.K [] = 3 := hk
  refine runs_last baseJD (Sx.Ends.of (zln3_p0 H F W r M T) ⟨?oo, ?rr⟩) (by kernel_rfl) rfl (gtL (by decide)) (by decide)
  case oo =>
    refine (okc ?_ (okc ?_ (okc ?_ (okc ?_ (okc ?_ okn)))))
    all_goals first | omega | assumption | exact ⟨hF, g1⟩ | exact ⟨hF, g1, g2⟩ | exact ⟨hF, g3⟩ | exact ⟨hF, g4⟩ | exact ⟨hF, hW, g5, g6, g7⟩ | (simp (disch := omega) only [SS, hk, List.length_append, List.length_cons, List.length_nil, hk']; first | done | omega | assumption | exact ⟨hF, g1⟩ | exact ⟨hF, g1, g2⟩ | exact ⟨hF, g3⟩ | exact ⟨hF, g4⟩ | exact ⟨hF, hW, g5, g6, g7⟩) | (simp_all; done) | (simp_all; omega)
  case rr =>
    refine ⟨?_, trivial⟩
    simp only [lnV]
    first | (simp only [hk]; rfl) | (simp only [cs]; simp [hk]; done)

theorem zln4_p0 (H : List Ent) (F : Ix → Int) (W : Ix → List UInt8) (r : RF) (M : Nat) (T : Ix → List UInt8) :
    isEnd (evTill Tryd.prog sumsJD 500 (99) 900 70 [.code (bodyOf Tryd.f70)] (envOf [.agg (enT 61 r.one)] Tryd.f70.ntmps) (((sentEnts 23 213 (textsIn 23 H errG)) ++ ([⟨61, false, none, 1, .ta M (.vs T)⟩] ++ (pwF F ++ wdE W))) ++ ([])) ⟨[.s false, .s false, .s false, .s false, .s true, .s true, .s true, .s true, .s true, .s true, .s true, .s true], 80⟩) (endP ([]) (vS (lnV W r T)) ([]) 400) =
    (OkL [(cs r.1 [] == (1 : Int), false), (cs r.1 [] == (2 : Int), false), (cs r.1 [] == (3 : Int), false), (cs r.1 [] == (6 : Int), false), (cs r.1 [] == (4 : Int), true), (pwOK F && inR (cs r.12 []), true), (decide ((6 : Nat) + (cmdV W (cs r.12 [])).length ≤ (9223372036854775807 : Nat)), true), (decide (([(97 : UInt8), (115 : UInt8), (107 : UInt8), (101 : UInt8), (100 : UInt8), (32 : UInt8)] ++ cmdV W (cs r.12 [])).length + (1 : Nat) ≤ (9223372036854775807 : Nat)), true), (pwOK F && inR (cs r.13 []), true), (decide (([(97 : UInt8), (115 : UInt8), (107 : UInt8), (101 : UInt8), (100 : UInt8), (32 : UInt8)] ++ cmdV W (cs r.12 []) ++ [(32 : UInt8)]).length + (optV (cs r.13 [])).length ≤ (9223372036854775807 : Nat)), true), (pwOK F, true), (decide (([(97 : UInt8), (115 : UInt8), (107 : UInt8), (101 : UInt8), (100 : UInt8), (32 : UInt8)] ++ cmdV W (cs r.12 []) ++ [(32 : UInt8)] ++ optV (cs r.13 [])).length + (flV (cs r.14 [])).length ≤ (9223372036854775807 : Nat)), true)] ∧ lnV W r T = [(97 : UInt8), (115 : UInt8), (107 : UInt8), (101 : UInt8), (100 : UInt8), (32 : UInt8)] ++ cmdV W (cs r.12 []) ++ [(32 : UInt8)] ++ optV (cs r.13 []) ++ flV (cs r.14 []) ∧ True) := by kernel_rfl

set_option maxHeartbeats 4000000 in
theorem zln4 (H : List Ent) (F : Ix → Int) (W : Ix → List UInt8) (r : RF) (M : Nat) (T : Ix → List UInt8) (hF : pwOK F = true) (hW : wdOK W = true) (hM : r.L [] ≤ M) (hg : rgV r = true) (hs : shV r T = true) (hk : r.K [] = 4)  :
    RunsTo Tryd.prog 70 [.code (bodyOf Tryd.f70)] (envOf [.agg (enT 61 r.one)] Tryd.f70.ntmps) (Sx.look (((sentEnts 23 213 (textsIn 23 H errG)) ++ ([⟨61, false, none, 1, .ta M (.vs T)⟩] ++ (pwF F ++ wdE W))) ++ ([]))) 80 (vS (lnV W r T)) (Sx.look ([])) 400 := by
  obtain ⟨g1, g2, g3, g4, g5, g6, g7⟩ : inR (cs r.N []) = true ∧ inR (cs r.C []) = true ∧ inR (cs r.V []) = true ∧ inR (cs r.O []) = true ∧ inR (cs r.nc []) = true ∧ inR (cs r.ns []) = true ∧ inR (cs r.no []) = true := by
    have h := hg
    unfold rgV at h
    simp only [Bool.and_eq_true] at h
    exact h
  have hx : (cs r.X []).length ≤ 500 := by
    have h := hs
    unfold shV at h
    simp only [Bool.and_eq_true, decide_eq_true_eq] at h
    exact h.1
  have l1 := itoa_len g1
  have l3 := cmdV_len hW g3
  have l4 := optV_len g4
  have l5 := flV_len (cs r.E [])
  have l6 := quoT_len (cs r.X [])
  have l7 := plV_len (k := cs r.K []) g1 g2
  have l8 := ntV_len hW (a := cs r.nk []) (cs r.nb []) g5 g6 g7
  have hk' : cs r.K [] = 4 := hk
  refine runs_last baseJD (Sx.Ends.of (zln4_p0 H F W r M T) ⟨?oo, ?rr⟩) (by kernel_rfl) rfl (gtL (by decide)) (by decide)
  case oo =>
    refine (okc ?_ (okc ?_ (okc ?_ (okc ?_ (okc ?_ (okc ?_ (okc ?_ (okc ?_ (okc ?_ (okc ?_ (okc ?_ (okc ?_ okn))))))))))))
    all_goals first | omega | assumption | exact ⟨hF, g1⟩ | exact ⟨hF, g1, g2⟩ | exact ⟨hF, g3⟩ | exact ⟨hF, g4⟩ | exact ⟨hF, hW, g5, g6, g7⟩ | (simp (disch := omega) only [SS, hk, List.length_append, List.length_cons, List.length_nil, hk']; first | done | omega | assumption | exact ⟨hF, g1⟩ | exact ⟨hF, g1, g2⟩ | exact ⟨hF, g3⟩ | exact ⟨hF, g4⟩ | exact ⟨hF, hW, g5, g6, g7⟩) | (simp_all; done) | (simp_all; omega)
  case rr =>
    refine ⟨?_, trivial⟩
    simp only [lnV]
    first | (simp only [hk]; rfl) | (simp only [cs]; simp [hk]; done)

theorem zln5_p0 (H : List Ent) (F : Ix → Int) (W : Ix → List UInt8) (r : RF) (M : Nat) (T : Ix → List UInt8) :
    isEnd (evTill Tryd.prog sumsJD 500 (99) 900 70 [.code (bodyOf Tryd.f70)] (envOf [.agg (enT 61 r.one)] Tryd.f70.ntmps) (((sentEnts 23 213 (textsIn 23 H errG)) ++ ([⟨61, false, none, 1, .ta M (.vs T)⟩] ++ (pwF F ++ wdE W))) ++ ([])) ⟨[.s false, .s false, .s false, .s false, .s false, .s true, .s true, .s true], 80⟩) (endP ([]) (vS (lnV W r T)) ([]) 400) =
    (OkL [(cs r.1 [] == (1 : Int), false), (cs r.1 [] == (2 : Int), false), (cs r.1 [] == (3 : Int), false), (cs r.1 [] == (6 : Int), false), (cs r.1 [] == (4 : Int), false), (cs r.1 [] == (5 : Int), true), (pwOK F && (wdOK W && (inR (cs r.8 []) && (inR (cs r.9 []) && inR (cs r.10 [])))), true), (decide ((6 : Nat) + (ntV W (cs r.7 []) (cs r.8 []) (cs r.9 []) (cs r.10 []) (cs r.11 [])).length ≤ (9223372036854775807 : Nat)), true)] ∧ lnV W r T = [(110 : UInt8), (111 : UInt8), (116 : UInt8), (101 : UInt8), (100 : UInt8), (32 : UInt8)] ++ ntV W (cs r.7 []) (cs r.8 []) (cs r.9 []) (cs r.10 []) (cs r.11 []) ∧ True) := by kernel_rfl

set_option maxHeartbeats 4000000 in
theorem zln5 (H : List Ent) (F : Ix → Int) (W : Ix → List UInt8) (r : RF) (M : Nat) (T : Ix → List UInt8) (hF : pwOK F = true) (hW : wdOK W = true) (hM : r.L [] ≤ M) (hg : rgV r = true) (hs : shV r T = true) (hk : r.K [] = 5)  :
    RunsTo Tryd.prog 70 [.code (bodyOf Tryd.f70)] (envOf [.agg (enT 61 r.one)] Tryd.f70.ntmps) (Sx.look (((sentEnts 23 213 (textsIn 23 H errG)) ++ ([⟨61, false, none, 1, .ta M (.vs T)⟩] ++ (pwF F ++ wdE W))) ++ ([]))) 80 (vS (lnV W r T)) (Sx.look ([])) 400 := by
  obtain ⟨g1, g2, g3, g4, g5, g6, g7⟩ : inR (cs r.N []) = true ∧ inR (cs r.C []) = true ∧ inR (cs r.V []) = true ∧ inR (cs r.O []) = true ∧ inR (cs r.nc []) = true ∧ inR (cs r.ns []) = true ∧ inR (cs r.no []) = true := by
    have h := hg
    unfold rgV at h
    simp only [Bool.and_eq_true] at h
    exact h
  have hx : (cs r.X []).length ≤ 500 := by
    have h := hs
    unfold shV at h
    simp only [Bool.and_eq_true, decide_eq_true_eq] at h
    exact h.1
  have l1 := itoa_len g1
  have l3 := cmdV_len hW g3
  have l4 := optV_len g4
  have l5 := flV_len (cs r.E [])
  have l6 := quoT_len (cs r.X [])
  have l7 := plV_len (k := cs r.K []) g1 g2
  have l8 := ntV_len hW (a := cs r.nk []) (cs r.nb []) g5 g6 g7
  have hk' : cs r.K [] = 5 := hk
  refine runs_last baseJD (Sx.Ends.of (zln5_p0 H F W r M T) ⟨?oo, ?rr⟩) (by kernel_rfl) rfl (gtL (by decide)) (by decide)
  case oo =>
    refine (okc ?_ (okc ?_ (okc ?_ (okc ?_ (okc ?_ (okc ?_ (okc ?_ (okc ?_ okn))))))))
    all_goals first | omega | assumption | exact ⟨hF, g1⟩ | exact ⟨hF, g1, g2⟩ | exact ⟨hF, g3⟩ | exact ⟨hF, g4⟩ | exact ⟨hF, hW, g5, g6, g7⟩ | (simp (disch := omega) only [SS, hk, List.length_append, List.length_cons, List.length_nil, hk']; first | done | omega | assumption | exact ⟨hF, g1⟩ | exact ⟨hF, g1, g2⟩ | exact ⟨hF, g3⟩ | exact ⟨hF, g4⟩ | exact ⟨hF, hW, g5, g6, g7⟩) | (simp_all; done) | (simp_all; omega)
  case rr =>
    refine ⟨?_, trivial⟩
    simp only [lnV]
    first | (simp only [hk]; rfl) | (simp only [cs]; simp [hk]; done)

theorem zln6_p0 (H : List Ent) (F : Ix → Int) (W : Ix → List UInt8) (r : RF) (M : Nat) (T : Ix → List UInt8) :
    isEnd (evTill Tryd.prog sumsJD 500 (99) 900 70 [.code (bodyOf Tryd.f70)] (envOf [.agg (enT 61 r.one)] Tryd.f70.ntmps) (((sentEnts 23 213 (textsIn 23 H errG)) ++ ([⟨61, false, none, 1, .ta M (.vs T)⟩] ++ (pwF F ++ wdE W))) ++ ([])) ⟨[.s false, .s false, .s false, .s true, .s true, .s true], 80⟩) (endP ([]) (vS (lnV W r T)) ([]) 400) =
    (OkL [(cs r.1 [] == (1 : Int), false), (cs r.1 [] == (2 : Int), false), (cs r.1 [] == (3 : Int), false), (cs r.1 [] == (6 : Int), true), (pwOK F && inR (cs r.2 []), true), (decide ((5 : Nat) + (Lib.itoa (cs r.2 [])).length ≤ (9223372036854775807 : Nat)), true)] ∧ lnV W r T = [(108 : UInt8), (111 : UInt8), (115 : UInt8), (116 : UInt8), (32 : UInt8)] ++ Lib.itoa (cs r.2 []) ∧ True) := by kernel_rfl

set_option maxHeartbeats 4000000 in
theorem zln6 (H : List Ent) (F : Ix → Int) (W : Ix → List UInt8) (r : RF) (M : Nat) (T : Ix → List UInt8) (hF : pwOK F = true) (hW : wdOK W = true) (hM : r.L [] ≤ M) (hg : rgV r = true) (hs : shV r T = true) (hk : r.K [] = 6)  :
    RunsTo Tryd.prog 70 [.code (bodyOf Tryd.f70)] (envOf [.agg (enT 61 r.one)] Tryd.f70.ntmps) (Sx.look (((sentEnts 23 213 (textsIn 23 H errG)) ++ ([⟨61, false, none, 1, .ta M (.vs T)⟩] ++ (pwF F ++ wdE W))) ++ ([]))) 80 (vS (lnV W r T)) (Sx.look ([])) 400 := by
  obtain ⟨g1, g2, g3, g4, g5, g6, g7⟩ : inR (cs r.N []) = true ∧ inR (cs r.C []) = true ∧ inR (cs r.V []) = true ∧ inR (cs r.O []) = true ∧ inR (cs r.nc []) = true ∧ inR (cs r.ns []) = true ∧ inR (cs r.no []) = true := by
    have h := hg
    unfold rgV at h
    simp only [Bool.and_eq_true] at h
    exact h
  have hx : (cs r.X []).length ≤ 500 := by
    have h := hs
    unfold shV at h
    simp only [Bool.and_eq_true, decide_eq_true_eq] at h
    exact h.1
  have l1 := itoa_len g1
  have l3 := cmdV_len hW g3
  have l4 := optV_len g4
  have l5 := flV_len (cs r.E [])
  have l6 := quoT_len (cs r.X [])
  have l7 := plV_len (k := cs r.K []) g1 g2
  have l8 := ntV_len hW (a := cs r.nk []) (cs r.nb []) g5 g6 g7
  have hk' : cs r.K [] = 6 := hk
  refine runs_last baseJD (Sx.Ends.of (zln6_p0 H F W r M T) ⟨?oo, ?rr⟩) (by kernel_rfl) rfl (gtL (by decide)) (by decide)
  case oo =>
    refine (okc ?_ (okc ?_ (okc ?_ (okc ?_ (okc ?_ (okc ?_ okn))))))
    all_goals first | omega | assumption | exact ⟨hF, g1⟩ | exact ⟨hF, g1, g2⟩ | exact ⟨hF, g3⟩ | exact ⟨hF, g4⟩ | exact ⟨hF, hW, g5, g6, g7⟩ | (simp (disch := omega) only [SS, hk, List.length_append, List.length_cons, List.length_nil, hk']; first | done | omega | assumption | exact ⟨hF, g1⟩ | exact ⟨hF, g1, g2⟩ | exact ⟨hF, g3⟩ | exact ⟨hF, g4⟩ | exact ⟨hF, hW, g5, g6, g7⟩) | (simp_all; done) | (simp_all; omega)
  case rr =>
    refine ⟨?_, trivial⟩
    simp only [lnV]
    first | (simp only [hk]; rfl) | (simp only [cs]; simp [hk]; done)

theorem zln8_p0 (H : List Ent) (F : Ix → Int) (W : Ix → List UInt8) (r : RF) (M : Nat) (T : Ix → List UInt8) :
    isEnd (evTill Tryd.prog sumsJD 500 (99) 900 70 [.code (bodyOf Tryd.f70)] (envOf [.agg (enT 61 r.one)] Tryd.f70.ntmps) (((sentEnts 23 213 (textsIn 23 H errG)) ++ ([⟨61, false, none, 1, .ta M (.vs T)⟩] ++ (pwF F ++ wdE W))) ++ ([])) ⟨[.s false, .s false, .s false, .s false, .s false, .s false, .s false, .s true, .s true, .s true], 80⟩) (endP ([]) (vS (lnV W r T)) ([]) 400) =
    (OkL [(cs r.1 [] == (1 : Int), false), (cs r.1 [] == (2 : Int), false), (cs r.1 [] == (3 : Int), false), (cs r.1 [] == (6 : Int), false), (cs r.1 [] == (4 : Int), false), (cs r.1 [] == (5 : Int), false), (cs r.1 [] == (7 : Int), false), (cs r.1 [] == (8 : Int), true), (pwOK F && (inR (cs r.2 []) && inR (cs r.3 [])), true), (decide ((5 : Nat) + (plV (cs r.1 []) (cs r.2 []) (cs r.3 [])).length ≤ (9223372036854775807 : Nat)), true)] ∧ lnV W r T = [(108 : UInt8), (97 : UInt8), (116 : UInt8), (101 : UInt8), (32 : UInt8)] ++ plV (cs r.1 []) (cs r.2 []) (cs r.3 []) ∧ True) := by kernel_rfl

set_option maxHeartbeats 4000000 in
theorem zln8 (H : List Ent) (F : Ix → Int) (W : Ix → List UInt8) (r : RF) (M : Nat) (T : Ix → List UInt8) (hF : pwOK F = true) (hW : wdOK W = true) (hM : r.L [] ≤ M) (hg : rgV r = true) (hs : shV r T = true) (hk : r.K [] = 8)  :
    RunsTo Tryd.prog 70 [.code (bodyOf Tryd.f70)] (envOf [.agg (enT 61 r.one)] Tryd.f70.ntmps) (Sx.look (((sentEnts 23 213 (textsIn 23 H errG)) ++ ([⟨61, false, none, 1, .ta M (.vs T)⟩] ++ (pwF F ++ wdE W))) ++ ([]))) 80 (vS (lnV W r T)) (Sx.look ([])) 400 := by
  obtain ⟨g1, g2, g3, g4, g5, g6, g7⟩ : inR (cs r.N []) = true ∧ inR (cs r.C []) = true ∧ inR (cs r.V []) = true ∧ inR (cs r.O []) = true ∧ inR (cs r.nc []) = true ∧ inR (cs r.ns []) = true ∧ inR (cs r.no []) = true := by
    have h := hg
    unfold rgV at h
    simp only [Bool.and_eq_true] at h
    exact h
  have hx : (cs r.X []).length ≤ 500 := by
    have h := hs
    unfold shV at h
    simp only [Bool.and_eq_true, decide_eq_true_eq] at h
    exact h.1
  have l1 := itoa_len g1
  have l3 := cmdV_len hW g3
  have l4 := optV_len g4
  have l5 := flV_len (cs r.E [])
  have l6 := quoT_len (cs r.X [])
  have l7 := plV_len (k := cs r.K []) g1 g2
  have l8 := ntV_len hW (a := cs r.nk []) (cs r.nb []) g5 g6 g7
  have hk' : cs r.K [] = 8 := hk
  refine runs_last baseJD (Sx.Ends.of (zln8_p0 H F W r M T) ⟨?oo, ?rr⟩) (by kernel_rfl) rfl (gtL (by decide)) (by decide)
  case oo =>
    refine (okc ?_ (okc ?_ (okc ?_ (okc ?_ (okc ?_ (okc ?_ (okc ?_ (okc ?_ (okc ?_ (okc ?_ okn))))))))))
    all_goals first | omega | assumption | exact ⟨hF, g1⟩ | exact ⟨hF, g1, g2⟩ | exact ⟨hF, g3⟩ | exact ⟨hF, g4⟩ | exact ⟨hF, hW, g5, g6, g7⟩ | (simp (disch := omega) only [SS, hk, List.length_append, List.length_cons, List.length_nil, hk']; first | done | omega | assumption | exact ⟨hF, g1⟩ | exact ⟨hF, g1, g2⟩ | exact ⟨hF, g3⟩ | exact ⟨hF, g4⟩ | exact ⟨hF, hW, g5, g6, g7⟩) | (simp_all; done) | (simp_all; omega)
  case rr =>
    refine ⟨?_, trivial⟩
    simp only [lnV]
    first | (simp only [hk]; rfl) | (simp only [cs]; simp [hk]; done)

theorem zln9_p0 (H : List Ent) (F : Ix → Int) (W : Ix → List UInt8) (r : RF) (M : Nat) (T : Ix → List UInt8) :
    isEnd (evTill Tryd.prog sumsJD 500 (99) 900 70 [.code (bodyOf Tryd.f70)] (envOf [.agg (enT 61 r.one)] Tryd.f70.ntmps) (((sentEnts 23 213 (textsIn 23 H errG)) ++ ([⟨61, false, none, 1, .ta M (.vs T)⟩] ++ (pwF F ++ wdE W))) ++ ([])) ⟨[.s false, .s false, .s false, .s false, .s false, .s false, .s false, .s false, .s true, .s true, .s true], 80⟩) (endP ([]) (vS (lnV W r T)) ([]) 400) =
    (OkL [(cs r.1 [] == (1 : Int), false), (cs r.1 [] == (2 : Int), false), (cs r.1 [] == (3 : Int), false), (cs r.1 [] == (6 : Int), false), (cs r.1 [] == (4 : Int), false), (cs r.1 [] == (5 : Int), false), (cs r.1 [] == (7 : Int), false), (cs r.1 [] == (8 : Int), false), (cs r.1 [] == (9 : Int), true), (pwOK F && (inR (cs r.2 []) && inR (cs r.3 [])), true), (decide ((6 : Nat) + (plV (cs r.1 []) (cs r.2 []) (cs r.3 [])).length ≤ (9223372036854775807 : Nat)), true)] ∧ lnV W r T = [(101 : UInt8), (110 : UInt8), (100 : UInt8), (101 : UInt8), (100 : UInt8), (32 : UInt8)] ++ plV (cs r.1 []) (cs r.2 []) (cs r.3 []) ∧ True) := by kernel_rfl

set_option maxHeartbeats 4000000 in
theorem zln9 (H : List Ent) (F : Ix → Int) (W : Ix → List UInt8) (r : RF) (M : Nat) (T : Ix → List UInt8) (hF : pwOK F = true) (hW : wdOK W = true) (hM : r.L [] ≤ M) (hg : rgV r = true) (hs : shV r T = true) (hk : r.K [] = 9)  :
    RunsTo Tryd.prog 70 [.code (bodyOf Tryd.f70)] (envOf [.agg (enT 61 r.one)] Tryd.f70.ntmps) (Sx.look (((sentEnts 23 213 (textsIn 23 H errG)) ++ ([⟨61, false, none, 1, .ta M (.vs T)⟩] ++ (pwF F ++ wdE W))) ++ ([]))) 80 (vS (lnV W r T)) (Sx.look ([])) 400 := by
  obtain ⟨g1, g2, g3, g4, g5, g6, g7⟩ : inR (cs r.N []) = true ∧ inR (cs r.C []) = true ∧ inR (cs r.V []) = true ∧ inR (cs r.O []) = true ∧ inR (cs r.nc []) = true ∧ inR (cs r.ns []) = true ∧ inR (cs r.no []) = true := by
    have h := hg
    unfold rgV at h
    simp only [Bool.and_eq_true] at h
    exact h
  have hx : (cs r.X []).length ≤ 500 := by
    have h := hs
    unfold shV at h
    simp only [Bool.and_eq_true, decide_eq_true_eq] at h
    exact h.1
  have l1 := itoa_len g1
  have l3 := cmdV_len hW g3
  have l4 := optV_len g4
  have l5 := flV_len (cs r.E [])
  have l6 := quoT_len (cs r.X [])
  have l7 := plV_len (k := cs r.K []) g1 g2
  have l8 := ntV_len hW (a := cs r.nk []) (cs r.nb []) g5 g6 g7
  have hk' : cs r.K [] = 9 := hk
  refine runs_last baseJD (Sx.Ends.of (zln9_p0 H F W r M T) ⟨?oo, ?rr⟩) (by kernel_rfl) rfl (gtL (by decide)) (by decide)
  case oo =>
    refine (okc ?_ (okc ?_ (okc ?_ (okc ?_ (okc ?_ (okc ?_ (okc ?_ (okc ?_ (okc ?_ (okc ?_ (okc ?_ okn)))))))))))
    all_goals first | omega | assumption | exact ⟨hF, g1⟩ | exact ⟨hF, g1, g2⟩ | exact ⟨hF, g3⟩ | exact ⟨hF, g4⟩ | exact ⟨hF, hW, g5, g6, g7⟩ | (simp (disch := omega) only [SS, hk, List.length_append, List.length_cons, List.length_nil, hk']; first | done | omega | assumption | exact ⟨hF, g1⟩ | exact ⟨hF, g1, g2⟩ | exact ⟨hF, g3⟩ | exact ⟨hF, g4⟩ | exact ⟨hF, hW, g5, g6, g7⟩) | (simp_all; done) | (simp_all; omega)
  case rr =>
    refine ⟨?_, trivial⟩
    simp only [lnV]
    first | (simp only [hk]; rfl) | (simp only [cs]; simp [hk]; done)

theorem zln10_p0 (H : List Ent) (F : Ix → Int) (W : Ix → List UInt8) (r : RF) (M : Nat) (T : Ix → List UInt8) :
    isEnd (evTill Tryd.prog sumsJD 500 (99) 900 70 [.code (bodyOf Tryd.f70)] (envOf [.agg (enT 61 r.one)] Tryd.f70.ntmps) (((sentEnts 23 213 (textsIn 23 H errG)) ++ ([⟨61, false, none, 1, .ta M (.vs T)⟩] ++ (pwF F ++ wdE W))) ++ ([])) ⟨[.s false, .s false, .s false, .s false, .s false, .s false, .s false, .s false, .s false, .s true, .s true, .s true, .s true, .s true], 80⟩) (endP ([]) (vS (lnV W r T)) ([]) 400) =
    (OkL [(cs r.1 [] == (1 : Int), false), (cs r.1 [] == (2 : Int), false), (cs r.1 [] == (3 : Int), false), (cs r.1 [] == (6 : Int), false), (cs r.1 [] == (4 : Int), false), (cs r.1 [] == (5 : Int), false), (cs r.1 [] == (7 : Int), false), (cs r.1 [] == (8 : Int), false), (cs r.1 [] == (9 : Int), false), (cs r.1 [] == (10 : Int), true), (pwOK F && inR (cs r.2 []), true), (decide ((5 : Nat) + (Lib.itoa (cs r.2 [])).length ≤ (9223372036854775807 : Nat)), true), (pwOK F, true), (decide (([(100 : UInt8), (111 : UInt8), (110 : UInt8), (101 : UInt8), (32 : UInt8)] ++ Lib.itoa (cs r.2 [])).length + (flV (cs r.14 [])).length ≤ (9223372036854775807 : Nat)), true)] ∧ lnV W r T = [(100 : UInt8), (111 : UInt8), (110 : UInt8), (101 : UInt8), (32 : UInt8)] ++ Lib.itoa (cs r.2 []) ++ flV (cs r.14 []) ∧ True) := by kernel_rfl

set_option maxHeartbeats 4000000 in
theorem zln10 (H : List Ent) (F : Ix → Int) (W : Ix → List UInt8) (r : RF) (M : Nat) (T : Ix → List UInt8) (hF : pwOK F = true) (hW : wdOK W = true) (hM : r.L [] ≤ M) (hg : rgV r = true) (hs : shV r T = true) (hk : r.K [] = 10)  :
    RunsTo Tryd.prog 70 [.code (bodyOf Tryd.f70)] (envOf [.agg (enT 61 r.one)] Tryd.f70.ntmps) (Sx.look (((sentEnts 23 213 (textsIn 23 H errG)) ++ ([⟨61, false, none, 1, .ta M (.vs T)⟩] ++ (pwF F ++ wdE W))) ++ ([]))) 80 (vS (lnV W r T)) (Sx.look ([])) 400 := by
  obtain ⟨g1, g2, g3, g4, g5, g6, g7⟩ : inR (cs r.N []) = true ∧ inR (cs r.C []) = true ∧ inR (cs r.V []) = true ∧ inR (cs r.O []) = true ∧ inR (cs r.nc []) = true ∧ inR (cs r.ns []) = true ∧ inR (cs r.no []) = true := by
    have h := hg
    unfold rgV at h
    simp only [Bool.and_eq_true] at h
    exact h
  have hx : (cs r.X []).length ≤ 500 := by
    have h := hs
    unfold shV at h
    simp only [Bool.and_eq_true, decide_eq_true_eq] at h
    exact h.1
  have l1 := itoa_len g1
  have l3 := cmdV_len hW g3
  have l4 := optV_len g4
  have l5 := flV_len (cs r.E [])
  have l6 := quoT_len (cs r.X [])
  have l7 := plV_len (k := cs r.K []) g1 g2
  have l8 := ntV_len hW (a := cs r.nk []) (cs r.nb []) g5 g6 g7
  have hk' : cs r.K [] = 10 := hk
  refine runs_last baseJD (Sx.Ends.of (zln10_p0 H F W r M T) ⟨?oo, ?rr⟩) (by kernel_rfl) rfl (gtL (by decide)) (by decide)
  case oo =>
    refine (okc ?_ (okc ?_ (okc ?_ (okc ?_ (okc ?_ (okc ?_ (okc ?_ (okc ?_ (okc ?_ (okc ?_ (okc ?_ (okc ?_ (okc ?_ (okc ?_ okn))))))))))))))
    all_goals first | omega | assumption | exact ⟨hF, g1⟩ | exact ⟨hF, g1, g2⟩ | exact ⟨hF, g3⟩ | exact ⟨hF, g4⟩ | exact ⟨hF, hW, g5, g6, g7⟩ | (simp (disch := omega) only [SS, hk, List.length_append, List.length_cons, List.length_nil, hk']; first | done | omega | assumption | exact ⟨hF, g1⟩ | exact ⟨hF, g1, g2⟩ | exact ⟨hF, g3⟩ | exact ⟨hF, g4⟩ | exact ⟨hF, hW, g5, g6, g7⟩) | (simp_all; done) | (simp_all; omega)
  case rr =>
    refine ⟨?_, trivial⟩
    simp only [lnV]
    first | (simp only [hk]; rfl) | (simp only [cs]; simp [hk]; done)

theorem zlnx_p0 (H : List Ent) (F : Ix → Int) (W : Ix → List UInt8) (r : RF) (M : Nat) (T : Ix → List UInt8) :
    isEnd (evTill Tryd.prog sumsJD 500 (99) 900 70 [.code (bodyOf Tryd.f70)] (envOf [.agg (enT 61 r.one)] Tryd.f70.ntmps) (((sentEnts 23 213 (textsIn 23 H errG)) ++ ([⟨61, false, none, 1, .ta M (.vs T)⟩] ++ (pwF F ++ wdE W))) ++ ([])) ⟨[.s false, .s false, .s false, .s false, .s false, .s false, .s false, .s false, .s false, .s false], 80⟩) (endP ([]) (vS (lnV W r T)) ([]) 400) =
    (OkL [(cs r.1 [] == (1 : Int), false), (cs r.1 [] == (2 : Int), false), (cs r.1 [] == (3 : Int), false), (cs r.1 [] == (6 : Int), false), (cs r.1 [] == (4 : Int), false), (cs r.1 [] == (5 : Int), false), (cs r.1 [] == (7 : Int), false), (cs r.1 [] == (8 : Int), false), (cs r.1 [] == (9 : Int), false), (cs r.1 [] == (10 : Int), false)] ∧ lnV W r T = [(63 : UInt8)] ∧ True) := by kernel_rfl

set_option maxHeartbeats 4000000 in
theorem zlnx (H : List Ent) (F : Ix → Int) (W : Ix → List UInt8) (r : RF) (M : Nat) (T : Ix → List UInt8) (hF : pwOK F = true) (hW : wdOK W = true) (hM : r.L [] ≤ M) (hg : rgV r = true) (hs : shV r T = true) (hk : ¬ (1 ≤ r.K [] ∧ r.K [] ≤ 10))  :
    RunsTo Tryd.prog 70 [.code (bodyOf Tryd.f70)] (envOf [.agg (enT 61 r.one)] Tryd.f70.ntmps) (Sx.look (((sentEnts 23 213 (textsIn 23 H errG)) ++ ([⟨61, false, none, 1, .ta M (.vs T)⟩] ++ (pwF F ++ wdE W))) ++ ([]))) 80 (vS (lnV W r T)) (Sx.look ([])) 400 := by
  obtain ⟨g1, g2, g3, g4, g5, g6, g7⟩ : inR (cs r.N []) = true ∧ inR (cs r.C []) = true ∧ inR (cs r.V []) = true ∧ inR (cs r.O []) = true ∧ inR (cs r.nc []) = true ∧ inR (cs r.ns []) = true ∧ inR (cs r.no []) = true := by
    have h := hg
    unfold rgV at h
    simp only [Bool.and_eq_true] at h
    exact h
  have hx : (cs r.X []).length ≤ 500 := by
    have h := hs
    unfold shV at h
    simp only [Bool.and_eq_true, decide_eq_true_eq] at h
    exact h.1
  have hk' : ¬ (1 ≤ cs r.K [] ∧ cs r.K [] ≤ 10) := hk
  refine runs_last baseJD (Sx.Ends.of (zlnx_p0 H F W r M T) ⟨?oo, ?rr⟩) (by kernel_rfl) rfl (gtL (by decide)) (by decide)
  case oo =>
    refine (okc ?_ (okc ?_ (okc ?_ (okc ?_ (okc ?_ (okc ?_ (okc ?_ (okc ?_ (okc ?_ (okc ?_ okn))))))))))
    all_goals first | omega | (simp only [beq_eq_false_iff_ne, ne_eq]; omega) | (simp only [cs, beq_eq_false_iff_ne, ne_eq]; omega) | (simp_all; done) | (simp_all; omega)
  case rr =>
    refine ⟨?_, trivial⟩
    simp only [lnV]
    repeat' first | rfl | (rw [if_neg (by omega)])

theorem zch0_p0 (H : List Ent) (F : Ix → Int) (W : Ix → List UInt8) (r : RF) (M : Nat) (T : Ix → List UInt8) :
    isMore (evTill Tryd.prog sumsJD 500 (behind Tryd.f70 0) 900 70 [.code (bodyOf Tryd.f70)] (envOf [.agg (enT 61 r.one)] Tryd.f70.ntmps) (((sentEnts 23 213 (textsIn 23 H errG)) ++ ([⟨61, false, none, 1, .ta M (.vs T)⟩] ++ (pwF F ++ wdE W))) ++ ([])) ⟨[.s false, .s false, .s false, .s false, .s false, .s false, .s true, .s true, .s true], 80⟩) (moreP (headOf Tryd.f70 0) ([]) Tryd.f70.ntmps ([(3, vS (chV (plV (r.K []) (r.N []) (r.C [])) T 0)), (59, .v (.vl 61 (fun _ => 0) 1 [] (cs r.L))), (60, vN (r.L [])), (61, vN (0 : Nat))]) ([]) 400) =
    (OkL [(cs r.1 [] == (1 : Int), false), (cs r.1 [] == (2 : Int), false), (cs r.1 [] == (3 : Int), false), (cs r.1 [] == (6 : Int), false), (cs r.1 [] == (4 : Int), false), (cs r.1 [] == (5 : Int), false), (cs r.1 [] == (7 : Int), true), (pwOK F && (inR (cs r.2 []) && inR (cs r.3 [])), true), (decide ((6 : Nat) + (plV (cs r.1 []) (cs r.2 []) (cs r.3 [])).length ≤ (9223372036854775807 : Nat)), true)] ∧ headOf Tryd.f70 (0 : Nat) = headOf Tryd.f70 (0 : Nat) ∧ (chV (plV (r.1 []) (r.2 []) (r.3 [])) T (0 : Nat) = [(99 : UInt8), (104 : UInt8), (111 : UInt8), (115 : UInt8), (101 : UInt8), (32 : UInt8)] ++ plV (cs r.1 []) (cs r.2 []) (cs r.3 []) ∧ ((0 : Nat) = (0 : Nat) ∧ cs r.6 [] = cs r.6 []) ∧ (↑(r.6 []) : Int) = (↑(cs r.6 []) : Int) ∧ (↑(0 : Nat) : Int) = (0 : Int)) ∧ True) := by kernel_rfl

set_option maxHeartbeats 4000000 in
theorem zch0 (H : List Ent) (F : Ix → Int) (W : Ix → List UInt8) (r : RF) (M : Nat) (T : Ix → List UInt8) (hF : pwOK F = true) (hW : wdOK W = true) (hM : r.L [] ≤ M) (hg : rgV r = true) (hs : shV r T = true) (hk : r.K [] = 7)  (v : SV) (L' : HF) (next : RunsTo Tryd.prog 70 (headOf Tryd.f70 0) (envAt Tryd.f70.ntmps ([(3, vS (chV (plV (r.K []) (r.N []) (r.C [])) T 0)), (59, .v (.vl 61 (fun _ => 0) 1 [] (cs r.L))), (60, vN (r.L [])), (61, vN (0 : Nat))])) (Sx.look (((sentEnts 23 213 (textsIn 23 H errG)) ++ ([⟨61, false, none, 1, .ta M (.vs T)⟩] ++ (pwF F ++ wdE W))) ++ ([]))) 80 (v) (L') 400) :
    RunsTo Tryd.prog 70 [.code (bodyOf Tryd.f70)] (envOf [.agg (enT 61 r.one)] Tryd.f70.ntmps) (Sx.look (((sentEnts 23 213 (textsIn 23 H errG)) ++ ([⟨61, false, none, 1, .ta M (.vs T)⟩] ++ (pwF F ++ wdE W))) ++ ([]))) 80 (v) (L') 400 := by
  obtain ⟨g1, g2, g3, g4, g5, g6, g7⟩ : inR (cs r.N []) = true ∧ inR (cs r.C []) = true ∧ inR (cs r.V []) = true ∧ inR (cs r.O []) = true ∧ inR (cs r.nc []) = true ∧ inR (cs r.ns []) = true ∧ inR (cs r.no []) = true := by
    have h := hg
    unfold rgV at h
    simp only [Bool.and_eq_true] at h
    exact h
  have hx : (cs r.X []).length ≤ 500 := by
    have h := hs
    unfold shV at h
    simp only [Bool.and_eq_true, decide_eq_true_eq] at h
    exact h.1
  have l1 := itoa_len g1
  have l3 := cmdV_len hW g3
  have l4 := optV_len g4
  have l5 := flV_len (cs r.E [])
  have l6 := quoT_len (cs r.X [])
  have l7 := plV_len (k := cs r.K []) g1 g2
  have l8 := ntV_len hW (a := cs r.nk []) (cs r.nb []) g5 g6 g7
  have hk' : cs r.K [] = 7 := hk
  refine runs_more baseJD (More.of (zch0_p0 H F W r M T) ⟨?oo, rfl, ?rr⟩) (by kernel_rfl) (by kernel_rfl) rfl (gtL (by decide)) (by decide) next
  case oo =>
    clear next
    refine (okc ?_ (okc ?_ (okc ?_ (okc ?_ (okc ?_ (okc ?_ (okc ?_ (okc ?_ (okc ?_ okn)))))))))
    all_goals first | omega | assumption | exact ⟨hF, g1⟩ | exact ⟨hF, g1, g2⟩ | exact ⟨hF, g3⟩ | exact ⟨hF, g4⟩ | exact ⟨hF, hW, g5, g6, g7⟩ | (simp (disch := omega) only [SS, hk, List.length_append, List.length_cons, List.length_nil, hk']; first | done | omega | assumption | exact ⟨hF, g1⟩ | exact ⟨hF, g1, g2⟩ | exact ⟨hF, g3⟩ | exact ⟨hF, g4⟩ | exact ⟨hF, hW, g5, g6, g7⟩) | (simp_all; done) | (simp_all; omega)
  case rr =>
    clear next
    try simp (disch := omega) only [SS]
    repeat' apply And.intro
    all_goals first | exact True.intro | with_reducible rfl | omega | (intros; first | exact True.intro | with_reducible rfl | omega | (simp_all; done)) | (simp_all; done) | rfl

theorem zch1_p0 (H : List Ent) (F : Ix → Int) (W : Ix → List UInt8) (r : RF) (M : Nat) (T : Ix → List UInt8) (o : List UInt8) (q : Nat) :
    isMore (evTill Tryd.prog sumsJD 500 (behind Tryd.f70 0) 900 70 (headOf Tryd.f70 0) (envAt Tryd.f70.ntmps ([(3, vS (o)), (59, .v (.vl 61 (fun _ => 0) 1 [] (cs r.L))), (60, vN (r.L [])), (61, vN (q : Nat))])) (((sentEnts 23 213 (textsIn 23 H errG)) ++ ([⟨61, false, none, 1, .ta M (.vs T)⟩] ++ (pwF F ++ wdE W))) ++ ([])) ⟨[.s true, .s true, .s true, .s true, .s true, .s true, .s true], 110⟩) (moreP (headOf Tryd.f70 0) ([]) Tryd.f70.ntmps ([(3, vS (o ++ ([32] ++ quoT (T [q])))), (59, .v (.vl 61 (fun _ => 0) 1 [] (cs r.L))), (60, vN (r.L [])), (61, vN (q + 1 : Nat))]) ([]) 400) =
    (OkL [(decide ((↑q : Int) < (↑(r.6 []) : Int)), true), (decide ((0 : Int) ≤ (↑q : Int) ∧ (↑q : Int) < (↑(cs r.6 []) : Int)), true), (((0 : Nat) + (↑q : Int).toNat).blt M, true), (((0 : Nat) + (↑q : Int).toNat).blt M, true), (decide ((T [(0 : Nat) + (↑q : Int).toNat]).length ≤ (100000 : Nat)), true), (decide ((1 : Nat) + (quoT (T [(0 : Nat) + (↑q : Int).toNat])).length ≤ (9223372036854775807 : Nat)), true), (decide (o.length + ([(32 : UInt8)] ++ quoT (T [(0 : Nat) + (↑q : Int).toNat])).length ≤ (9223372036854775807 : Nat)), true)] ∧ headOf Tryd.f70 (0 : Nat) = headOf Tryd.f70 (0 : Nat) ∧ (o ++ ([(32 : UInt8)] ++ quoT (T [q])) = o ++ ([(32 : UInt8)] ++ quoT (T [(0 : Nat) + (↑q : Int).toNat])) ∧ ((0 : Nat) = (0 : Nat) ∧ cs r.6 [] = cs r.6 []) ∧ (↑(r.6 []) : Int) = (↑(r.6 []) : Int) ∧ (↑(q + (1 : Nat)) : Int) = IntKind.i64.wrap ((↑q : Int) + (1 : Int))) ∧ True) := by kernel_rfl

set_option maxHeartbeats 4000000 in
theorem zch1 (H : List Ent) (F : Ix → Int) (W : Ix → List UInt8) (r : RF) (M : Nat) (T : Ix → List UInt8) (o : List UInt8) (q : Nat) (hq : q < r.L []) (hM : r.L [] ≤ M) (hl : r.L [] ≤ 12) (ht : (T [q]).length ≤ 200) (ho : o.length ≤ 100000)  (v : SV) (L' : HF) (next : RunsTo Tryd.prog 70 (headOf Tryd.f70 0) (envAt Tryd.f70.ntmps ([(3, vS (o ++ ([32] ++ quoT (T [q])))), (59, .v (.vl 61 (fun _ => 0) 1 [] (cs r.L))), (60, vN (r.L [])), (61, vN (q + 1 : Nat))])) (Sx.look (((sentEnts 23 213 (textsIn 23 H errG)) ++ ([⟨61, false, none, 1, .ta M (.vs T)⟩] ++ (pwF F ++ wdE W))) ++ ([]))) 80 (v) (L') 400) :
    RunsTo Tryd.prog 70 (headOf Tryd.f70 0) (envAt Tryd.f70.ntmps ([(3, vS (o)), (59, .v (.vl 61 (fun _ => 0) 1 [] (cs r.L))), (60, vN (r.L [])), (61, vN (q : Nat))])) (Sx.look (((sentEnts 23 213 (textsIn 23 H errG)) ++ ([⟨61, false, none, 1, .ta M (.vs T)⟩] ++ (pwF F ++ wdE W))) ++ ([]))) 80 (v) (L') 400 := by
  have hw : IntKind.i64.wrap ((q : Int) + 1) = ((q + 1 : Nat) : Int) := by rw [wr64 (by omega)]; rfl
  have l9 := quoT_len (T [q])
  have hq' : q < cs r.L [] := hq
  refine runs_more baseJD (More.of (zch1_p0 H F W r M T o q) ⟨?oo, rfl, ?rr⟩) (by kernel_rfl) (by kernel_rfl) rfl (gtL (by decide)) (by decide) next
  case oo =>
    clear next
    refine (okc ?_ (okc ?_ (okc ?_ (okc ?_ (okc ?_ (okc ?_ (okc ?_ okn)))))))
    all_goals first | omega | assumption | (simp (disch := omega) only [SS, hw, List.length_append, List.length_cons, List.length_nil]; first | done | omega | assumption) | (simp_all; done) | (simp_all; omega)
  case rr =>
    clear next
    try simp (disch := omega) only [SS, hw]
    repeat' apply And.intro
    all_goals first | exact True.intro | with_reducible rfl | omega | (intros; first | exact True.intro | with_reducible rfl | omega | (simp_all; done)) | (simp_all; done) | rfl

theorem zch2_p0 (H : List Ent) (F : Ix → Int) (W : Ix → List UInt8) (r : RF) (M : Nat) (T : Ix → List UInt8) (o : List UInt8) (q : Nat) :
    isEnd (evTill Tryd.prog sumsJD 500 (99) 900 70 (headOf Tryd.f70 0) (envAt Tryd.f70.ntmps ([(3, vS (o)), (59, .v (.vl 61 (fun _ => 0) 1 [] (cs r.L))), (60, vN (r.L [])), (61, vN (q : Nat))])) (((sentEnts 23 213 (textsIn 23 H errG)) ++ ([⟨61, false, none, 1, .ta M (.vs T)⟩] ++ (pwF F ++ wdE W))) ++ ([])) ⟨[.s false], 110⟩) (endP ([]) (vS o) ([]) 400) =
    (OkL [(decide ((↑q : Int) < (↑(r.6 []) : Int)), false)] ∧ o = o ∧ True) := by kernel_rfl

set_option maxHeartbeats 4000000 in
theorem zch2 (H : List Ent) (F : Ix → Int) (W : Ix → List UInt8) (r : RF) (M : Nat) (T : Ix → List UInt8) (o : List UInt8) (q : Nat) (hq : q = r.L [])  :
    RunsTo Tryd.prog 70 (headOf Tryd.f70 0) (envAt Tryd.f70.ntmps ([(3, vS (o)), (59, .v (.vl 61 (fun _ => 0) 1 [] (cs r.L))), (60, vN (r.L [])), (61, vN (q : Nat))])) (Sx.look (((sentEnts 23 213 (textsIn 23 H errG)) ++ ([⟨61, false, none, 1, .ta M (.vs T)⟩] ++ (pwF F ++ wdE W))) ++ ([]))) 80 (vS o) (Sx.look ([])) 400 := by
  refine runs_last baseJD (Sx.Ends.of (zch2_p0 H F W r M T o q) ⟨?oo, ?rr⟩) (by kernel_rfl) rfl (gtL (by decide)) (by decide)
  case oo =>
    refine (okc ?_ okn)
    all_goals first | omega | (simp_all; done) | (simp_all; omega)
  case rr =>
    try simp (disch := omega) only [SS]
    repeat' apply And.intro
    all_goals first | exact True.intro | with_reducible rfl | omega | (intros; first | exact True.intro | with_reducible rfl | omega | (simp_all; done)) | (simp_all; done) | rfl

theorem zlnT (H : List Ent) (F : Ix → Int) (W : Ix → List UInt8) (r : RF) (M : Nat) (T : Ix → List UInt8) (hF : pwOK F = true) (hW : wdOK W = true) (hM : r.L [] ≤ M) (hg : rgV r = true) (hs : shV r T = true) : RunsTo Tryd.prog 70 [.code (bodyOf Tryd.f70)] (envOf [.agg (enT 61 r.one)] Tryd.f70.ntmps) (Sx.look (((sentEnts 23 213 (textsIn 23 H errG)) ++ ([⟨61, false, none, 1, .ta M (.vs T)⟩] ++ (pwF F ++ wdE W))) ++ ([]))) 80 (vS (lnV W r T)) (Sx.look []) 400 := by
  by_cases hk : 1 ≤ r.K [] ∧ r.K [] ≤ 10
  · by_cases h7 : r.K [] = 7
    · have hv : lnV W r T = chV (plV (r.K []) (r.N []) (r.C [])) T (r.L []) := by unfold lnV; simp [h7]
      rw [hv]
      refine zch0 H F W r M T hF hW hM hg hs h7 _ _ ?_
      have h := hs
      unfold shV at h
      simp only [Bool.and_eq_true, decide_eq_true_eq] at h
      obtain ⟨f1, f2⟩ := few_at h.2
      have g := hg
      unfold rgV at g
      simp only [Bool.and_eq_true] at g
      exact down_loop (R := fun q => RunsTo Tryd.prog 70 (headOf Tryd.f70 0) (envAt Tryd.f70.ntmps ([(3, vS (chV (plV (r.K []) (r.N []) (r.C [])) T q)), (59, .v (.vl 61 (fun _ => 0) 1 [] (cs r.L))), (60, vN (r.L [])), (61, vN (q : Nat))])) (Sx.look (((sentEnts 23 213 (textsIn 23 H errG)) ++ ([⟨61, false, none, 1, .ta M (.vs T)⟩] ++ (pwF F ++ wdE W))) ++ ([]))) 80 (vS (chV (plV (r.K []) (r.N []) (r.C [])) T (r.L []))) (Sx.look []) 400) (fun q hq z => by
        have hl := chV_len (T := T) (plV_len (k := r.K []) g.1 g.2.1) f2 q (by omega)
        have ht := f2 q hq
        exact zch1 H F W r M T _ q hq hM (by omega) (by omega) (by omega) _ _ z) (zch2 H F W r M T _ _ rfl)
    · have h : r.K [] = 1 ∨ r.K [] = 2 ∨ r.K [] = 3 ∨ r.K [] = 4 ∨ r.K [] = 5 ∨ r.K [] = 6 ∨ r.K [] = 8 ∨ r.K [] = 9 ∨ r.K [] = 10 := by omega
      rcases h with h | h | h | h | h | h | h | h | h
      · exact zln1 H F W r M T hF hW hM hg hs h
      · exact zln2 H F W r M T hF hW hM hg hs h
      · exact zln3 H F W r M T hF hW hM hg hs h
      · exact zln4 H F W r M T hF hW hM hg hs h
      · exact zln5 H F W r M T hF hW hM hg hs h
      · exact zln6 H F W r M T hF hW hM hg hs h
      · exact zln8 H F W r M T hF hW hM hg hs h
      · exact zln9 H F W r M T hF hW hM hg hs h
      · exact zln10 H F W r M T hF hW hM hg hs h
  · exact zlnx H F W r M T hF hW hM hg hs hk
def zlnP : PC := { args := [.agg (.tc (.vi .i64 10) (.tc (.vi .i64 11) (.tc (.vi .i64 12) (.tc (.vs 13) (.tc (.vm 61 1 14) (.tc (.tc (.vi .i64 15) (.tc (.vi .i64 16) (.tc (.vi .i64 17) (.tc (.vi .i64 18) (.tc (.vb 19) .t0))))) (.tc (.vi .i64 20) (.tc (.vi .i64 21) (.tc (.vx 213 errL 22) .t0)))))))))], heap := [⟨61, false, 1, .ta 40 (.vs 41)⟩], fams := [], tabs := [⟨19, false, 20, .tn 20 (.vi .u64 9)⟩, ⟨16, false, 16, .tn 16 (.vs 8)⟩], gs := [0, 1, 2, 3, 4, 5, 6, 7, 8, 9, 10, 11, 12, 13, 14, 15], G := 23, tp := 213, n := 80, n' := 400, cond := fun e => pwOK (eI e 9) && (wdOK (eS e 8) && (decide (eN e 14 ≤ eN e 40) && (rgV (⟨eI e 10, eI e 11, eI e 12, eS e 13, fun _ => 0, fun _ => eN e 14, eI e 15, eI e 16, eI e 17, eI e 18, eB e 19, eI e 20, eI e 21, eM e 22, fun _ => 0⟩ : RF) && shV (⟨eI e 10, eI e 11, eI e 12, eS e 13, fun _ => 0, fun _ => eN e 14, eI e 15, eI e 16, eI e 17, eI e 18, eB e 19, eI e 20, eI e 21, eM e 22, fun _ => 0⟩ : RF) (eS e 41)))), v := fun e => vS (lnV (eS e 8) (⟨eI e 10, eI e 11, eI e 12, eS e 13, fun _ => 0, fun _ => eN e 14, eI e 15, eI e 16, eI e 17, eI e 18, eB e 19, eI e 20, eI e 21, eM e 22, fun _ => 0⟩ : RF) (eS e 41)), post := fun e => [] }
theorem zlnP_pc : PC.Runs Tryd.prog 70 Tryd.f70 (bodyOf Tryd.f70) zlnP := ⟨Tryd.func70, by kernel_rfl, (fun g hg => by first | (cases hg; done) | (revert g; show ∀ g ∈ ([0, 1, 2, 3, 4, 5, 6, 7, 8, 9, 10, 11, 12, 13, 14, 15] : List Nat), g < 23; decide)), fun e H hc => by
  have hc : (pwOK (eI e 9) && (wdOK (eS e 8) && (decide (eN e 14 ≤ eN e 40) && (rgV (⟨eI e 10, eI e 11, eI e 12, eS e 13, fun _ => 0, fun _ => eN e 14, eI e 15, eI e 16, eI e 17, eI e 18, eB e 19, eI e 20, eI e 21, eM e 22, fun _ => 0⟩ : RF) && shV (⟨eI e 10, eI e 11, eI e 12, eS e 13, fun _ => 0, fun _ => eN e 14, eI e 15, eI e 16, eI e 17, eI e 18, eB e 19, eI e 20, eI e 21, eM e 22, fun _ => 0⟩ : RF) (eS e 41))))) = true := hc
  try simp only [Bool.and_eq_true, decide_eq_true_eq, Nat.beq_eq] at hc
  exact zlnT H (eI e 9) (eS e 8) (⟨eI e 10, eI e 11, eI e 12, eS e 13, fun _ => 0, fun _ => eN e 14, eI e 15, eI e 16, eI e 17, eI e 18, eB e 19, eI e 20, eI e 21, eM e 22, fun _ => 0⟩ : RF) (eN e 40) (eS e 41) hc.1 hc.2.1 hc.2.2.1 hc.2.2.2.1 hc.2.2.2.2⟩
def sumsJE : List (FuncId × Summ) := [(70, zlnP.summ 46)]
theorem baseJE : Base0 Tryd.prog sumsJE := (baseO.cons Tryd.func70 (by kernel_rfl) (PC.summ_ok zlnP_pc gtopG))
def lnA (W : Ix → List UInt8) (r : RF) (T : Ix → List UInt8) (i : Nat) : List UInt8 := lnV W (r.at i) (fun js => T (r.M [i] :: js))
def rowR (r : RF) (T : Ix → List UInt8) (n : Nat) : Bool := (List.range n).all fun i => rgV (r.at i) && shV (r.at i) (fun js => T (r.M [i] :: js))
theorem zls0_p0 (H : List Ent) (F : Ix → Int) (W : Ix → List UInt8) (r : RF) (n M cn : Nat) (ls : Nat → Nat) (T : Ix → List UInt8) :
    isMore (evTill Tryd.prog sumsJE 500 (behind Tryd.f30 0) 900 30 [.code (bodyOf Tryd.f30)] (envOf [vL 61 13 n] Tryd.f30.ntmps) (((sentEnts 23 213 (textsIn 23 H errG)) ++ (enE false 61 71 r M ++ (famE 71 cn ls T ++ (pwF F ++ wdE W)))) ++ ([])) ⟨[], 80⟩) (moreP (headOf Tryd.f30 0) ([((101 : Nat), Rn.nil (1 : Nat))]) Tryd.f30.ntmps ([(3, vL 101 1 (0)), (6, vL 61 13 n), (7, vN n), (8, vN (0 : Nat))]) ([⟨101, true, none, 1, .ta (0) (.vs fun is => lnA W r T (is.headD 0))⟩]) 600) =
    (OkL [] ∧ headOf Tryd.f30 (0 : Nat) = headOf Tryd.f30 (0 : Nat) ∧ ((0 : Nat) = (0 : Nat) ∧ ((0 : Nat) = (0 : Nat) ∧ n = n) ∧ (↑n : Int) = (↑n : Int) ∧ (↑(0 : Nat) : Int) = (0 : Int)) ∧ (0 : Nat) = (0 : Nat)) := by kernel_rfl

set_option maxHeartbeats 4000000 in
theorem zls0 (H : List Ent) (F : Ix → Int) (W : Ix → List UInt8) (r : RF) (n M cn : Nat) (ls : Nat → Nat) (T : Ix → List UInt8)  (v : SV) (L' : HF) (next : RunsTo Tryd.prog 30 (headOf Tryd.f30 0) (envAt Tryd.f30.ntmps ([(3, vL 101 1 (0)), (6, vL 61 13 n), (7, vN n), (8, vN (0 : Nat))])) (Sx.look (((sentEnts 23 213 (textsIn 23 H errG)) ++ (enE false 61 71 r M ++ (famE 71 cn ls T ++ (pwF F ++ wdE W)))) ++ ([⟨101, true, none, 1, .ta (0) (.vs fun is => lnA W r T (is.headD 0))⟩]))) 80 (v) (L') 600) :
    RunsTo Tryd.prog 30 [.code (bodyOf Tryd.f30)] (envOf [vL 61 13 n] Tryd.f30.ntmps) (Sx.look (((sentEnts 23 213 (textsIn 23 H errG)) ++ (enE false 61 71 r M ++ (famE 71 cn ls T ++ (pwF F ++ wdE W)))) ++ ([]))) 80 (v) (L') 600 := by
  refine runs_more baseJE (More.of (zls0_p0 H F W r n M cn ls T) ⟨?oo, rfl, ?rr⟩) (by kernel_rfl) (by kernel_rfl) rfl (gtL (by decide)) (by decide) next
  case oo =>
    clear next
    refine okn
    all_goals ((try simp (disch := omega) only [SS]); first | done | omega | assumption | (simp (disch := omega) only [SS] at *; first | done | omega | assumption) | (simp_all; done))
  case rr =>
    clear next
    try simp (disch := omega) only [SS]
    repeat' apply And.intro
    all_goals first | exact True.intro | with_reducible rfl | omega | (intros; first | exact True.intro | with_reducible rfl | omega | (simp_all; done)) | (simp_all; done) | rfl

theorem zls1_p0 (H : List Ent) (F : Ix → Int) (W : Ix → List UInt8) (r : RF) (n M cn : Nat) (ls : Nat → Nat) (T : Ix → List UInt8) (i : Nat) :
    isMore (evTill Tryd.prog sumsJE 500 (behind Tryd.f30 0) 900 30 (headOf Tryd.f30 0) (envAt Tryd.f30.ntmps ([(3, vL 101 1 (i)), (6, vL 61 13 n), (7, vN n), (8, vN (i : Nat))])) (((sentEnts 23 213 (textsIn 23 H errG)) ++ (enE false 61 71 r M ++ (famE 71 cn ls T ++ (pwF F ++ wdE W)))) ++ ([⟨101, true, none, 1, .ta (i) (.vs fun is => lnA W r T (is.headD 0))⟩])) ⟨[.s true, .s true, .s true, .s true, .s true, .s true, .t, .s true, .s true], 110⟩) (moreP (headOf Tryd.f30 0) ([((101 : Nat), Rn.to (432 : Nat))]) Tryd.f30.ntmps ([(3, vL 101 1 (i + 1)), (6, vL 61 13 n), (7, vN n), (8, vN (i + 1 : Nat))]) ([⟨101, true, none, 1, .ta (i + 1) (.vs fun is => lnA W r T (is.headD 0))⟩]) 600) =
    (OkL [(decide ((↑i : Int) < (↑n : Int)), true), (decide ((0 : Int) ≤ (↑i : Int) ∧ (↑i : Int) < (↑n : Int)), true), (((0 : Nat) + (↑i : Int).toNat).blt M, true), (((0 : Nat) + (↑i : Int).toNat).blt M, true), ((r.5 [(0 : Nat) + (↑i : Int).toNat] + (1 : Nat) + (cn - (r.5 [(0 : Nat) + (↑i : Int).toNat] + (1 : Nat)))).beq cn, true), (pwOK F && (wdOK W && (decide (r.6 [(0 : Nat) + (↑i : Int).toNat] ≤ ls (r.5 [(0 : Nat) + (↑i : Int).toNat])) && (rgV { K := fun js => r.1 (((0 : Nat) + (↑i : Int).toNat) :: js), N := fun js => r.2 (((0 : Nat) + (↑i : Int).toNat) :: js), C := fun js => r.3 (((0 : Nat) + (↑i : Int).toNat) :: js), X := fun js => r.4 (((0 : Nat) + (↑i : Int).toNat) :: js), M := fun x => (0 : Nat), L := fun x => r.6 [(0 : Nat) + (↑i : Int).toNat], nk := fun js => r.7 (((0 : Nat) + (↑i : Int).toNat) :: js), nc := fun js => r.8 (((0 : Nat) + (↑i : Int).toNat) :: js), ns := fun js => r.9 (((0 : Nat) + (↑i : Int).toNat) :: js), no := fun js => r.10 (((0 : Nat) + (↑i : Int).toNat) :: js), nb := fun js => r.11 (((0 : Nat) + (↑i : Int).toNat) :: js), V := fun js => r.12 (((0 : Nat) + (↑i : Int).toNat) :: js), O := fun js => r.13 (((0 : Nat) + (↑i : Int).toNat) :: js), E := fun js => r.14 (((0 : Nat) + (↑i : Int).toNat) :: js), B := fun x => (0 : Int) } && shV { K := fun js => r.1 (((0 : Nat) + (↑i : Int).toNat) :: js), N := fun js => r.2 (((0 : Nat) + (↑i : Int).toNat) :: js), C := fun js => r.3 (((0 : Nat) + (↑i : Int).toNat) :: js), X := fun js => r.4 (((0 : Nat) + (↑i : Int).toNat) :: js), M := fun x => (0 : Nat), L := fun x => r.6 [(0 : Nat) + (↑i : Int).toNat], nk := fun js => r.7 (((0 : Nat) + (↑i : Int).toNat) :: js), nc := fun js => r.8 (((0 : Nat) + (↑i : Int).toNat) :: js), ns := fun js => r.9 (((0 : Nat) + (↑i : Int).toNat) :: js), no := fun js => r.10 (((0 : Nat) + (↑i : Int).toNat) :: js), nb := fun js => r.11 (((0 : Nat) + (↑i : Int).toNat) :: js), V := fun js => r.12 (((0 : Nat) + (↑i : Int).toNat) :: js), O := fun js => r.13 (((0 : Nat) + (↑i : Int).toNat) :: js), E := fun js => r.14 (((0 : Nat) + (↑i : Int).toNat) :: js), B := fun x => (0 : Int) } fun js => T (r.5 [(0 : Nat) + (↑i : Int).toNat] :: js)))), true), (((0 : Nat) + i).ble i, true), (decide (((2 : Nat) * (i + (1 : Nat)) + (192 : Nat)) * (16 : Nat) ≤ (281474976710656 : Nat)), true)] ∧ headOf Tryd.f30 (0 : Nat) = headOf Tryd.f30 (0 : Nat) ∧ (((0 : Nat) = (0 : Nat) ∧ i + (1 : Nat) = i + (1 : Nat)) ∧ ((0 : Nat) = (0 : Nat) ∧ n = n) ∧ (↑n : Int) = (↑n : Int) ∧ (↑(i + (1 : Nat)) : Int) = IntKind.i64.wrap ((↑i : Int) + (1 : Int))) ∧ i + (1 : Nat) = i + (1 : Nat) ∧ ∀ (i_1 : Nat), i_1 < i + (1 : Nat) → lnA W r T i_1 = appF i (0 : Nat) (fun is => lnA W r T (List.headD is (0 : Nat))) (fun js => lnV W { K := fun js => r.1 (((0 : Nat) + (↑i : Int).toNat) :: js), N := fun js => r.2 (((0 : Nat) + (↑i : Int).toNat) :: js), C := fun js => r.3 (((0 : Nat) + (↑i : Int).toNat) :: js), X := fun js => r.4 (((0 : Nat) + (↑i : Int).toNat) :: js), M := fun x => (0 : Nat), L := fun x => r.6 [(0 : Nat) + (↑i : Int).toNat], nk := fun js => r.7 (((0 : Nat) + (↑i : Int).toNat) :: js), nc := fun js => r.8 (((0 : Nat) + (↑i : Int).toNat) :: js), ns := fun js => r.9 (((0 : Nat) + (↑i : Int).toNat) :: js), no := fun js => r.10 (((0 : Nat) + (↑i : Int).toNat) :: js), nb := fun js => r.11 (((0 : Nat) + (↑i : Int).toNat) :: js), V := fun js => r.12 (((0 : Nat) + (↑i : Int).toNat) :: js), O := fun js => r.13 (((0 : Nat) + (↑i : Int).toNat) :: js), E := fun js => r.14 (((0 : Nat) + (↑i : Int).toNat) :: js), B := fun x => (0 : Int) } fun js => T (r.5 [(0 : Nat) + (↑i : Int).toNat] :: js)) [i_1]) := by kernel_rfl

set_option maxHeartbeats 4000000 in
theorem zls1 (H : List Ent) (F : Ix → Int) (W : Ix → List UInt8) (r : RF) (n M cn : Nat) (ls : Nat → Nat) (T : Ix → List UInt8) (i : Nat) (hi : i < n) (hn : n ≤ 1000) (hM : n ≤ M) (hF : pwOK F = true) (hW : wdOK W = true) (o : okMs r.M r.L n cn ls = true) (hr : rowR r T n = true)  (v : SV) (L' : HF) (next : RunsTo Tryd.prog 30 (headOf Tryd.f30 0) (envAt Tryd.f30.ntmps ([(3, vL 101 1 (i + 1)), (6, vL 61 13 n), (7, vN n), (8, vN (i + 1 : Nat))])) (Sx.look (((sentEnts 23 213 (textsIn 23 H errG)) ++ (enE false 61 71 r M ++ (famE 71 cn ls T ++ (pwF F ++ wdE W)))) ++ ([⟨101, true, none, 1, .ta (i + 1) (.vs fun is => lnA W r T (is.headD 0))⟩]))) 80 (v) (L') 600) :
    RunsTo Tryd.prog 30 (headOf Tryd.f30 0) (envAt Tryd.f30.ntmps ([(3, vL 101 1 (i)), (6, vL 61 13 n), (7, vN n), (8, vN (i : Nat))])) (Sx.look (((sentEnts 23 213 (textsIn 23 H errG)) ++ (enE false 61 71 r M ++ (famE 71 cn ls T ++ (pwF F ++ wdE W)))) ++ ([⟨101, true, none, 1, .ta (i) (.vs fun is => lnA W r T (is.headD 0))⟩]))) 80 (v) (L') 600 := by
  have hw : IntKind.i64.wrap ((i : Int) + 1) = ((i + 1 : Nat) : Int) := by rw [wr64 (by omega)]; rfl
  obtain ⟨a1, a2⟩ := okMs_at o hi
  have hr1 := List.all_eq_true.1 hr i (List.mem_range.2 hi)
  simp only [Bool.and_eq_true] at hr1
  obtain ⟨b1, b2⟩ := hr1
  refine runs_more baseJE (More.of (zls1_p0 H F W r n M cn ls T i) ⟨?oo, rfl, ?rr⟩) (by kernel_rfl) (by kernel_rfl) rfl (gtL (by decide)) (by decide) next
  case oo =>
    clear next
    refine (okc ?_ (okc ?_ (okc ?_ (okc ?_ (okc ?_ (okc ?_ (okc ?_ (okc ?_ okn))))))))
    all_goals first | omega | exact ⟨hF, hW, a2, b1, b2⟩ | (simp (disch := omega) only [SS, hw]; first | done | omega | assumption | exact ⟨hF, hW, a2, b1, b2⟩) | (simp only [Bool.and_eq_true, decide_eq_true_eq, Nat.zero_add, Int.toNat_natCast]; exact ⟨hF, hW, a2, b1, b2⟩) | (simp_all; done) | (simp_all; omega)
  case rr =>
    clear next
    try simp (disch := omega) only [SS, hw, Go.Sx.sum, Nat.zero_add]
    repeat' apply And.intro
    all_goals first | exact True.intro | with_reducible rfl | omega | (intro k hk; exact (ap_row i (fun is => lnA W r T (is.headD 0)) _ (fun _ => rfl) hk).symm) | (simp_all; done)

theorem zls2_p0 (H : List Ent) (F : Ix → Int) (W : Ix → List UInt8) (r : RF) (n M cn : Nat) (ls : Nat → Nat) (T : Ix → List UInt8) (i : Nat) :
    isEnd (evTill Tryd.prog sumsJE 500 (99) 900 30 (headOf Tryd.f30 0) (envAt Tryd.f30.ntmps ([(3, vL 101 1 (i)), (6, vL 61 13 n), (7, vN n), (8, vN (i : Nat))])) (((sentEnts 23 213 (textsIn 23 H errG)) ++ (enE false 61 71 r M ++ (famE 71 cn ls T ++ (pwF F ++ wdE W)))) ++ ([⟨101, true, none, 1, .ta (i) (.vs fun is => lnA W r T (is.headD 0))⟩])) ⟨[.s false], 110⟩) (endP ([((141 : Nat), Rn.to (101 : Nat))]) (vL 141 1 (i)) ([⟨141, true, none, 1, .ta (i) (.vs fun is => lnA W r T (is.headD 0))⟩]) 600) =
    (OkL [(decide ((↑i : Int) < (↑n : Int)), false)] ∧ ((0 : Nat) = (0 : Nat) ∧ i = i) ∧ i = i ∧ ∀ (i_1 : Nat), i_1 < i → lnA W r T i_1 = lnA W r T i_1) := by kernel_rfl

set_option maxHeartbeats 4000000 in
theorem zls2 (H : List Ent) (F : Ix → Int) (W : Ix → List UInt8) (r : RF) (n M cn : Nat) (ls : Nat → Nat) (T : Ix → List UInt8) (i : Nat) (hi : i = n)  :
    RunsTo Tryd.prog 30 (headOf Tryd.f30 0) (envAt Tryd.f30.ntmps ([(3, vL 101 1 (i)), (6, vL 61 13 n), (7, vN n), (8, vN (i : Nat))])) (Sx.look (((sentEnts 23 213 (textsIn 23 H errG)) ++ (enE false 61 71 r M ++ (famE 71 cn ls T ++ (pwF F ++ wdE W)))) ++ ([⟨101, true, none, 1, .ta (i) (.vs fun is => lnA W r T (is.headD 0))⟩]))) 80 (vL 141 1 (i)) (Sx.look ([⟨141, true, none, 1, .ta (i) (.vs fun is => lnA W r T (is.headD 0))⟩])) 600 := by
  refine runs_last baseJE (Sx.Ends.of (zls2_p0 H F W r n M cn ls T i) ⟨?oo, ?rr⟩) (by kernel_rfl) rfl (gtL (by decide)) (by decide)
  case oo =>
    refine (okc ?_ okn)
    all_goals ((try simp (disch := omega) only [SS]); first | done | omega | assumption | (simp (disch := omega) only [SS] at *; first | done | omega | assumption) | (simp_all; done))
  case rr =>
    try simp (disch := omega) only [SS]
    repeat' apply And.intro
    all_goals first | exact True.intro | with_reducible rfl | omega | (intros; first | exact True.intro | with_reducible rfl | omega | (simp_all; done)) | (simp_all; done) | rfl

theorem zlsT (H : List Ent) (F : Ix → Int) (W : Ix → List UInt8) (r : RF) (n M cn : Nat) (ls : Nat → Nat) (T : Ix → List UInt8) (hn : n ≤ 1000) (hM : n ≤ M) (hF : pwOK F = true) (hW : wdOK W = true) (o : okMs r.M r.L n cn ls = true) (hr : rowR r T n = true) : RunsTo Tryd.prog 30 [.code (bodyOf Tryd.f30)] (envOf [vL 61 13 n] Tryd.f30.ntmps) (Sx.look (((sentEnts 23 213 (textsIn 23 H errG)) ++ (enE false 61 71 r M ++ (famE 71 cn ls T ++ (pwF F ++ wdE W)))) ++ ([]))) 80 (vL 141 1 (n)) (Sx.look ([⟨141, true, none, 1, .ta (n) (.vs fun is => lnA W r T (is.headD 0))⟩])) 600 := by
  refine zls0 H F W r n M cn ls T _ _ ?_
  exact down_loop (R := fun i => RunsTo Tryd.prog 30 (headOf Tryd.f30 0) (envAt Tryd.f30.ntmps ([(3, vL 101 1 (i)), (6, vL 61 13 n), (7, vN n), (8, vN (i : Nat))])) (Sx.look (((sentEnts 23 213 (textsIn 23 H errG)) ++ (enE false 61 71 r M ++ (famE 71 cn ls T ++ (pwF F ++ wdE W)))) ++ ([⟨101, true, none, 1, .ta (i) (.vs fun is => lnA W r T (is.headD 0))⟩]))) 80 (vL 141 1 (n)) (Sx.look ([⟨141, true, none, 1, .ta (n) (.vs fun is => lnA W r T (is.headD 0))⟩])) 600) (fun i hi z => zls1 H F W r n M cn ls T i hi hn hM hF hW o hr _ _ z) (zls2 H F W r n M cn ls T n rfl)
def zlsP : PC := { args := [.v (.vl 61 13 0)], heap := [⟨61, false, 13, .ta 40 (.tc (.vi .i64 10) (.tc (.vi .i64 11) (.tc (.vi .i64 12) (.tc (.vs 13) (.tc (.vf 71 1 23 14) (.tc (.tc (.vi .i64 15) (.tc (.vi .i64 16) (.tc (.vi .i64 17) (.tc (.vi .i64 18) (.tc (.vb 19) .t0))))) (.tc (.vi .i64 20) (.tc (.vi .i64 21) (.tc (.vx 213 errL 22) .t0)))))))))⟩], fams := [⟨71, false, 1, 50, 51, .vs 52⟩], tabs := [⟨19, false, 20, .tn 20 (.vi .u64 9)⟩, ⟨16, false, 16, .tn 16 (.vs 8)⟩], gs := [0, 1, 2, 3, 4, 5, 6, 7, 8, 9, 10, 11, 12, 13, 14, 15], G := 23, tp := 213, n := 80, n' := 600, cond := fun e => decide (eN e 0 ≤ 1000) && (decide (eN e 0 ≤ eN e 40) && (pwOK (eI e 9) && (wdOK (eS e 8) && (okMs ((⟨eI e 10, eI e 11, eI e 12, eS e 13, eM e 23, eM e 14, eI e 15, eI e 16, eI e 17, eI e 18, eB e 19, eI e 20, eI e 21, eM e 22, fun _ => 0⟩ : RF)).M ((⟨eI e 10, eI e 11, eI e 12, eS e 13, eM e 23, eM e 14, eI e 15, eI e 16, eI e 17, eI e 18, eB e 19, eI e 20, eI e 21, eM e 22, fun _ => 0⟩ : RF)).L (eN e 0) (eN e 50) (eL e 51) && rowR (⟨eI e 10, eI e 11, eI e 12, eS e 13, eM e 23, eM e 14, eI e 15, eI e 16, eI e 17, eI e 18, eB e 19, eI e 20, eI e 21, eM e 22, fun _ => 0⟩ : RF) (eS e 52) (eN e 0))))), v := fun e => vL 141 1 (eN e 0), post := fun e => [⟨141, true, none, 1, .ta (eN e 0) (.vs fun is => lnA (eS e 8) (⟨eI e 10, eI e 11, eI e 12, eS e 13, eM e 23, eM e 14, eI e 15, eI e 16, eI e 17, eI e 18, eB e 19, eI e 20, eI e 21, eM e 22, fun _ => 0⟩ : RF) (eS e 52) (is.headD 0))⟩] }
theorem zlsP_pc : PC.Runs Tryd.prog 30 Tryd.f30 (bodyOf Tryd.f30) zlsP := ⟨Tryd.func30, by kernel_rfl, (fun g hg => by first | (cases hg; done) | (revert g; show ∀ g ∈ ([0, 1, 2, 3, 4, 5, 6, 7, 8, 9, 10, 11, 12, 13, 14, 15] : List Nat), g < 23; decide)), fun e H hc => by
  have hc : (decide (eN e 0 ≤ 1000) && (decide (eN e 0 ≤ eN e 40) && (pwOK (eI e 9) && (wdOK (eS e 8) && (okMs ((⟨eI e 10, eI e 11, eI e 12, eS e 13, eM e 23, eM e 14, eI e 15, eI e 16, eI e 17, eI e 18, eB e 19, eI e 20, eI e 21, eM e 22, fun _ => 0⟩ : RF)).M ((⟨eI e 10, eI e 11, eI e 12, eS e 13, eM e 23, eM e 14, eI e 15, eI e 16, eI e 17, eI e 18, eB e 19, eI e 20, eI e 21, eM e 22, fun _ => 0⟩ : RF)).L (eN e 0) (eN e 50) (eL e 51) && rowR (⟨eI e 10, eI e 11, eI e 12, eS e 13, eM e 23, eM e 14, eI e 15, eI e 16, eI e 17, eI e 18, eB e 19, eI e 20, eI e 21, eM e 22, fun _ => 0⟩ : RF) (eS e 52) (eN e 0)))))) = true := hc
  try simp only [Bool.and_eq_true, decide_eq_true_eq, Nat.beq_eq] at hc
  exact zlsT H (eI e 9) (eS e 8) (⟨eI e 10, eI e 11, eI e 12, eS e 13, eM e 23, eM e 14, eI e 15, eI e 16, eI e 17, eI e 18, eB e 19, eI e 20, eI e 21, eM e 22, fun _ => 0⟩ : RF) (eN e 0) (eN e 40) (eN e 50) (eL e 51) (eS e 52) hc.1 hc.2.1 hc.2.2.1 hc.2.2.2.1 hc.2.2.2.2.1 hc.2.2.2.2.2⟩
end Go.Proofs.YtaleenklamognaaDoor

set_option linter.unusedSimpArgs false
set_option linter.unusedVariables false
set_option maxRecDepth 100000
namespace Go.Proofs.YtaleenklamognaaDoor
open Go.Sx

open WordR
def sumsOZ : List (FuncId × Summ) := [(26, tavP.summ 46)]
theorem baseOZ : Base0 Tryd.prog sumsOZ := (baseO.cons Tryd.func26 (by kernel_rfl) (PC.summ_ok tavP_pc gtopG))
theorem oz1_p0 (r : RF) (n M : Nat) :
    isMore (evTill Tryd.prog sumsOZ 400 (behind Tryd.f28 0) 900 28 [.code (bodyOf Tryd.f28)] (envOf [vL 61 13 n, .v .vl0] Tryd.f28.ntmps) (enE false 61 71 r M ++ ([])) ⟨[], 80⟩) (moreP (headOf Tryd.f28 0) ([((101 : Nat), Rn.nil (13 : Nat))]) Tryd.f28.ntmps ([(1, .v .vl0), (5, vL 101 13 0), (8, vL 61 13 n), (9, vN n), (10, vN (0 : Nat))]) (enE true 101 71 (r.sel ([] : List Nat)) 0) 320) =
    (OkL [] ∧ headOf Tryd.f28 (0 : Nat) = headOf Tryd.f28 (0 : Nat) ∧ (True ∧ (0 : Nat) = (0 : Nat) ∧ ((0 : Nat) = (0 : Nat) ∧ n = n) ∧ (↑n : Int) = (↑n : Int) ∧ (↑(0 : Nat) : Int) = (0 : Int)) ∧ (0 : Nat) = (0 : Nat)) := by kernel_rfl

set_option maxHeartbeats 4000000 in
theorem oz1 (r : RF) (n M : Nat)  (v : SV) (L' : HF) (next : RunsTo Tryd.prog 28 (headOf Tryd.f28 0) (envAt Tryd.f28.ntmps ([(1, .v .vl0), (5, vL 101 13 0), (8, vL 61 13 n), (9, vN n), (10, vN (0 : Nat))])) (Sx.look (enE false 61 71 r M ++ (enE true 101 71 (r.sel ([] : List Nat)) 0))) 80 (v) (L') 320) :
    RunsTo Tryd.prog 28 [.code (bodyOf Tryd.f28)] (envOf [vL 61 13 n, .v .vl0] Tryd.f28.ntmps) (Sx.look (enE false 61 71 r M ++ ([]))) 80 (v) (L') 320 := by
  refine runs_more baseOZ (More.of (oz1_p0 r n M) ⟨?oo, rfl, ?rr⟩) (by kernel_rfl) (by kernel_rfl) rfl (gtL (by decide)) (by decide) next
  case oo =>
    clear next
    refine okn
    all_goals ((try simp (disch := omega) only [SS]); first | done | omega | assumption | (simp (disch := omega) only [SS] at *; first | done | omega | assumption) | (simp_all; done))
  case rr =>
    clear next
    try simp (disch := omega) only [SS]
    repeat' apply And.intro
    all_goals first | exact True.intro | with_reducible rfl | omega | (intros; first | exact True.intro | with_reducible rfl | omega | (simp_all; done)) | (simp_all; done) | rfl

theorem oz2_p0 (r : RF) (n M : Nat) (i : Nat) :
    isMore (evTill Tryd.prog sumsOZ 400 (behind Tryd.f28 0) 900 28 (headOf Tryd.f28 0) (envAt Tryd.f28.ntmps ([(1, .v .vl0), (5, vL 101 13 0), (8, vL 61 13 n), (9, vN n), (10, vN (i : Nat))])) (enE false 61 71 r M ++ (enE true 101 71 (r.sel ([] : List Nat)) 0)) ⟨[.s true, .s true, .s true, .s true, .f, .f], 110⟩) (moreP (headOf Tryd.f28 0) ([]) Tryd.f28.ntmps ([(1, .v .vl0), (5, vL 101 13 0), (8, vL 61 13 n), (9, vN n), (10, vN (i + 1 : Nat))]) (enE true 101 71 (r.sel ([] : List Nat)) 0) 320) =
    (OkL [(decide ((↑i : Int) < (↑n : Int)), true), (decide ((0 : Int) ≤ (↑i : Int) ∧ (↑i : Int) < (↑n : Int)), true), (((0 : Nat) + (↑i : Int).toNat).blt M, true), (((0 : Nat) + (↑i : Int).toNat).blt M, true)] ∧ headOf Tryd.f28 (0 : Nat) = headOf Tryd.f28 (0 : Nat) ∧ (True ∧ ((0 : Nat) = (0 : Nat) ∧ (0 : Nat) = (0 : Nat)) ∧ ((0 : Nat) = (0 : Nat) ∧ n = n) ∧ (↑n : Int) = (↑n : Int) ∧ (↑(i + (1 : Nat)) : Int) = IntKind.i64.wrap ((↑i : Int) + (1 : Int))) ∧ (0 : Nat) = (0 : Nat) ∧ (∀ (i : Nat), i < (0 : Nat) → ixI [] r.1 [i] = ixI [] r.1 [i]) ∧ (∀ (i : Nat), i < (0 : Nat) → ixI [] r.2 [i] = ixI [] r.2 [i]) ∧ (∀ (i : Nat), i < (0 : Nat) → ixI [] r.3 [i] = ixI [] r.3 [i]) ∧ (∀ (i : Nat), i < (0 : Nat) → ixI [] r.4 [i] = ixI [] r.4 [i]) ∧ ((∀ (i : Nat), i < (0 : Nat) → ixI [] r.5 [i] = ixI [] r.5 [i]) ∧ ∀ (i : Nat), i < (0 : Nat) → ixI [] r.6 [i] = ixI [] r.6 [i]) ∧ ((∀ (i : Nat), i < (0 : Nat) → ixI [] r.7 [i] = ixI [] r.7 [i]) ∧ (∀ (i : Nat), i < (0 : Nat) → ixI [] r.8 [i] = ixI [] r.8 [i]) ∧ (∀ (i : Nat), i < (0 : Nat) → ixI [] r.9 [i] = ixI [] r.9 [i]) ∧ (∀ (i : Nat), i < (0 : Nat) → ixI [] r.10 [i] = ixI [] r.10 [i]) ∧ ∀ (i : Nat), i < (0 : Nat) → ixI [] r.11 [i] = ixI [] r.11 [i]) ∧ (∀ (i : Nat), i < (0 : Nat) → ixI [] r.12 [i] = ixI [] r.12 [i]) ∧ (∀ (i : Nat), i < (0 : Nat) → ixI [] r.13 [i] = ixI [] r.13 [i]) ∧ ∀ (i : Nat), i < (0 : Nat) → ixI [] r.14 [i] = ixI [] r.14 [i]) := by kernel_rfl

set_option maxHeartbeats 4000000 in
theorem oz2 (r : RF) (n M : Nat) (i : Nat) (hi : i < n) (hn : n ≤ 1000) (hM : n ≤ M)  (v : SV) (L' : HF) (next : RunsTo Tryd.prog 28 (headOf Tryd.f28 0) (envAt Tryd.f28.ntmps ([(1, .v .vl0), (5, vL 101 13 0), (8, vL 61 13 n), (9, vN n), (10, vN (i + 1 : Nat))])) (Sx.look (enE false 61 71 r M ++ (enE true 101 71 (r.sel ([] : List Nat)) 0))) 80 (v) (L') 320) :
    RunsTo Tryd.prog 28 (headOf Tryd.f28 0) (envAt Tryd.f28.ntmps ([(1, .v .vl0), (5, vL 101 13 0), (8, vL 61 13 n), (9, vN n), (10, vN (i : Nat))])) (Sx.look (enE false 61 71 r M ++ (enE true 101 71 (r.sel ([] : List Nat)) 0))) 80 (v) (L') 320 := by
  have hw : IntKind.i64.wrap ((i : Int) + 1) = ((i + 1 : Nat) : Int) := by rw [wr64 (by omega)]; rfl
  refine runs_more baseOZ (More.of (oz2_p0 r n M i) ⟨?oo, rfl, ?rr⟩) (by kernel_rfl) (by kernel_rfl) rfl (gtL (by decide)) (by decide) next
  case oo =>
    clear next
    refine (okc ?_ (okc ?_ (okc ?_ (okc ?_ okn))))
    all_goals first | omega | (simp (disch := omega) only [SS, hw]; first | done | omega | assumption) | (simp_all; done) | (simp_all; omega)
  case rr =>
    clear next
    try simp (disch := omega) only [SS, hw, Go.Sx.sum, Nat.zero_add, List.length_append, List.length_cons, List.length_nil]
    repeat' apply And.intro
    all_goals first | exact True.intro | with_reducible rfl | omega | (simp_all; done)

theorem oz3_p0 (r : RF) (n M : Nat) (i : Nat) :
    isEnd (evTill Tryd.prog sumsOZ 400 (99) 900 28 (headOf Tryd.f28 0) (envAt Tryd.f28.ntmps ([(1, .v .vl0), (5, vL 101 13 0), (8, vL 61 13 n), (9, vN n), (10, vN (i : Nat))])) (enE false 61 71 r M ++ (enE true 101 71 (r.sel ([] : List Nat)) 0)) ⟨[.s false], 110⟩) (endP ([((141 : Nat), Rn.to (101 : Nat))]) (vL 141 13 0) (enE true 141 71 (r.sel ([] : List Nat)) 0) 320) =
    (OkL [(decide ((↑i : Int) < (↑n : Int)), false)] ∧ ((0 : Nat) = (0 : Nat) ∧ (0 : Nat) = (0 : Nat)) ∧ (0 : Nat) = (0 : Nat) ∧ (∀ (i : Nat), i < (0 : Nat) → ixI [] r.1 [i] = ixI [] r.1 [i]) ∧ (∀ (i : Nat), i < (0 : Nat) → ixI [] r.2 [i] = ixI [] r.2 [i]) ∧ (∀ (i : Nat), i < (0 : Nat) → ixI [] r.3 [i] = ixI [] r.3 [i]) ∧ (∀ (i : Nat), i < (0 : Nat) → ixI [] r.4 [i] = ixI [] r.4 [i]) ∧ ((∀ (i : Nat), i < (0 : Nat) → ixI [] r.5 [i] = ixI [] r.5 [i]) ∧ ∀ (i : Nat), i < (0 : Nat) → ixI [] r.6 [i] = ixI [] r.6 [i]) ∧ ((∀ (i : Nat), i < (0 : Nat) → ixI [] r.7 [i] = ixI [] r.7 [i]) ∧ (∀ (i : Nat), i < (0 : Nat) → ixI [] r.8 [i] = ixI [] r.8 [i]) ∧ (∀ (i : Nat), i < (0 : Nat) → ixI [] r.9 [i] = ixI [] r.9 [i]) ∧ (∀ (i : Nat), i < (0 : Nat) → ixI [] r.10 [i] = ixI [] r.10 [i]) ∧ ∀ (i : Nat), i < (0 : Nat) → ixI [] r.11 [i] = ixI [] r.11 [i]) ∧ (∀ (i : Nat), i < (0 : Nat) → ixI [] r.12 [i] = ixI [] r.12 [i]) ∧ (∀ (i : Nat), i < (0 : Nat) → ixI [] r.13 [i] = ixI [] r.13 [i]) ∧ ∀ (i : Nat), i < (0 : Nat) → ixI [] r.14 [i] = ixI [] r.14 [i]) := by kernel_rfl

set_option maxHeartbeats 4000000 in
theorem oz3 (r : RF) (n M : Nat) (i : Nat) (hi : i = n)  :
    RunsTo Tryd.prog 28 (headOf Tryd.f28 0) (envAt Tryd.f28.ntmps ([(1, .v .vl0), (5, vL 101 13 0), (8, vL 61 13 n), (9, vN n), (10, vN (i : Nat))])) (Sx.look (enE false 61 71 r M ++ (enE true 101 71 (r.sel ([] : List Nat)) 0))) 80 (vL 141 13 0) (Sx.look (enE true 141 71 (r.sel ([] : List Nat)) 0)) 320 := by
  refine runs_last baseOZ (Sx.Ends.of (oz3_p0 r n M i) ⟨?oo, ?rr⟩) (by kernel_rfl) rfl (gtL (by decide)) (by decide)
  case oo =>
    refine (okc ?_ okn)
    all_goals ((try simp (disch := omega) only [SS]); first | done | omega | assumption | (simp (disch := omega) only [SS] at *; first | done | omega | assumption) | (simp_all; done))
  case rr =>
    try simp (disch := omega) only [SS]
    repeat' apply And.intro
    all_goals first | exact True.intro | with_reducible rfl | omega | (intros; first | exact True.intro | with_reducible rfl | omega | (simp_all; done)) | (simp_all; done) | rfl

theorem ozT (r : RF) (n M : Nat) (hn : n ≤ 1000) (hM : n ≤ M) : RunsTo Tryd.prog 28 [.code (bodyOf Tryd.f28)] (envOf [vL 61 13 n, .v .vl0] Tryd.f28.ntmps) (Sx.look (enE false 61 71 r M ++ ([]))) 80 (vL 141 13 0) (Sx.look (enE true 141 71 (r.sel ([] : List Nat)) 0)) 320 := by
  refine oz1 r n M _ _ ?_
  exact down_loop (R := fun i => RunsTo Tryd.prog 28 (headOf Tryd.f28 0) (envAt Tryd.f28.ntmps ([(1, .v .vl0), (5, vL 101 13 0), (8, vL 61 13 n), (9, vN n), (10, vN (i : Nat))])) (Sx.look (enE false 61 71 r M ++ (enE true 101 71 (r.sel ([] : List Nat)) 0))) 80 (vL 141 13 0) (Sx.look (enE true 141 71 (r.sel ([] : List Nat)) 0)) 320) (fun i hi q => oz2 r n M i hi hn hM _ _ q) (oz3 r n M n rfl)
def ozP : PC := { args := [.v (.vl 61 13 0), .v .vl0], heap := [⟨61, false, 13, .ta 40 (.tc (.vi .i64 10) (.tc (.vi .i64 11) (.tc (.vi .i64 12) (.tc (.vs 13) (.tc (.vf 71 1 23 14) (.tc (.tc (.vi .i64 15) (.tc (.vi .i64 16) (.tc (.vi .i64 17) (.tc (.vi .i64 18) (.tc (.vb 19) .t0))))) (.tc (.vi .i64 20) (.tc (.vi .i64 21) (.tc (.vx 213 errL 22) .t0)))))))))⟩], gs := [], G := 23, tp := 213, n := 80, n' := 320, cond := fun e => decide (eN e 0 ≤ 1000) && decide (eN e 0 ≤ eN e 40), v := fun e => vL 141 13 0, post := fun e => enE true 141 71 ((⟨eI e 10, eI e 11, eI e 12, eS e 13, eM e 23, eM e 14, eI e 15, eI e 16, eI e 17, eI e 18, eB e 19, eI e 20, eI e 21, eM e 22, fun _ => 0⟩ : RF).sel ([] : List Nat)) 0 }
theorem ozP_pc : PC.Runs Tryd.prog 28 Tryd.f28 (bodyOf Tryd.f28) ozP := ⟨Tryd.func28, by kernel_rfl, (fun g hg => by first | (cases hg; done) | (revert g; show ∀ g ∈ ([] : List Nat), g < 23; decide)), fun e H hc => by
  have hc : (decide (eN e 0 ≤ 1000) && decide (eN e 0 ≤ eN e 40)) = true := hc
  try simp only [Bool.and_eq_true, decide_eq_true_eq, Nat.beq_eq] at hc
  exact ozT (⟨eI e 10, eI e 11, eI e 12, eS e 13, eM e 23, eM e 14, eI e 15, eI e 16, eI e 17, eI e 18, eB e 19, eI e 20, eI e 21, eM e 22, fun _ => 0⟩ : RF) (eN e 0) (eN e 40) hc.1 hc.2⟩
def onS : Summ := fun args H => match args with
  | [_, .v .vl0] => ozP.summ 46 args H
  | _ => onP.summ 46 args H
theorem onS_ok : ∀ args H x e d y, onS args H x = .ok e d y → OkL d → (∀ a ∈ args, ∀ l ∈ a.labs, l < x.nl) → WFh (Sx.look H) x.nl → gtop Tryd.prog ≤ x.nl → CallOK Tryd.prog 28 args H x.nl e y.nl := by
  intro args H x e d y h
  unfold onS at h
  split at h
  · exact PC.summ_ok ozP_pc gtopG _ _ _ _ _ _ h
  · exact PC.summ_ok onP_pc gtopG _ _ _ _ _ _ h
end Go.Proofs.YtaleenklamognaaDoor

