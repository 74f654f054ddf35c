/- Masks: what the functions do. -/
import Derived.Test.YtealbjkhjpmilaaDoorGnC
import Derived.Test.YtealbjkhjpmilaaDoorSyPl
set_option linter.unusedSimpArgs false
set_option linter.unusedVariables false
set_option maxRecDepth 100000
namespace Go.Proofs.YtealbjkhjpmilaaDoor
open Go.Sx

theorem goodP : PGood Tryd.prog := good_of (by kernel_rfl) (by kernel_rfl)
theorem gtopP : gtop Tryd.prog ≤ 100 := of_decide_eq_true (by kernel_rfl)
theorem gtopG : gtop Tryd.prog = 50 := of_decide_eq_true (by kernel_rfl)
theorem gtL {n : Nat} (h : 50 ≤ n) : gtop Tryd.prog ≤ n := Nat.le_trans (Nat.le_of_eq gtopG) h
theorem baseO : Base0 Tryd.prog [] := Base0.nil goodP
abbrev YES : SV := .v (.vb fun _ => true)
abbrev vN (a : Int) : SV := .v (.vi .i64 fun _ => a)
abbrev vU (a : Int) : SV := .v (.vi .u8 fun _ => a)
abbrev vB (a : Bool) : SV := .v (.vb fun _ => a)
abbrev vS (a : List UInt8) : SV := .v (.vs fun _ => a)
abbrev vP (l : Nat) : SV := .v (.vp l (fun _ => 0) [])
abbrev vL (l w n : Nat) : SV := .v (.vl l (fun _ => 0) w [] (fun _ => n))

/-- One byte into a mask. -/
def ofS (F : Nat → Int) (c : Int) : Nat → Int := fun j => if j = (c / 8).toNat then ior .u8 (F j) (ishr .u8 128 (c.tmod 8)) else F j
def ofN (B : Ix → Int) : Nat → Nat → Int
  | 0 => fun _ => 0
  | n + 1 => ofS (ofN B n) (B [n])
def fN (F : Nat → Int) : Ix → Int := fun is => F (is.headD 0)
def arrT (F : Ix → Int) : Tr := .ta 32 (.vi .u8 F)
def bE (l n : Nat) (B : Ix → Int) : List Ent := [⟨l, false, none, 1, .ta n (.vi .u8 B)⟩]
def mE (l : Nat) (F : Ix → Int) : List Ent := [⟨l, true, none, 32, arrT F⟩]
theorem bitI {c : Int} (h : 0 ≤ c ∧ c < 256) : IntKind.i64.wrap (IntKind.u8.wrap (c.tdiv 8)) = c / 8 ∧ 0 ≤ c / 8 ∧ c / 8 < 32 := by
  have h1 : c.tdiv 8 = c / 8 := Int.tdiv_eq_ediv_of_nonneg h.1
  rw [h1]
  simp only [IntKind.wrap, IntKind.bits, IntKind.signed]
  simp
  omega
def cutN (F : Ix → Int) (c : Int) : Nat → Nat
  | 0 => 0
  | n + 1 => if F [n] = c then cutN F c n else n + 1
def hasM (F : Ix → Int) (c : Int) : Bool := !(iand .u8 (F [(c / 8).toNat]) (ishr .u8 128 (c.tmod 8)) == 0)
def bytesM (F : Ix → Int) : Nat → List UInt8
  | 0 => []
  | n + 1 => bytesM F n ++ (if hasM F n = true then [UInt8.ofNat n] else [])
theorem ofStart_p0 (N : Nat) (B : Ix → Int) :
    isMore (evTill Tryd.prog [] 300 (behind Tryd.f24 0) 900 24 [.code (bodyOf Tryd.f24)] (envOf [vL 60 1 N] Tryd.f24.ntmps) (bE 60 N B ++ ([])) ⟨[], 80⟩) (moreP (headOf Tryd.f24 0) ([((90 : Nat), Rn.to (80 : Nat)), ((91 : Nat), Rn.to (81 : Nat))]) Tryd.f24.ntmps ([(2, vP 90), (3, vP 91), (8, vL 60 1 N), (9, vN N), (10, vN 0)]) (mE 90 (fun _ => 0) ++ mE 91 (fN (fun _ => 0))) 140) =
    (OkL [] ∧ headOf Tryd.f24 (0 : Nat) = headOf Tryd.f24 (0 : Nat) ∧ ((0 : Nat) = (0 : Nat) ∧ (0 : Nat) = (0 : Nat) ∧ ((0 : Nat) = (0 : Nat) ∧ N = N) ∧ (↑N : Int) = (↑N : Int) ∧ (0 : Int) = (0 : Int)) ∧ ((32 : Nat) = (32 : Nat) ∧ ∀ (i : Nat), i < (32 : Nat) → (0 : Int) = (0 : Int)) ∧ (32 : Nat) = (32 : Nat) ∧ ∀ (i : Nat), i < (32 : Nat) → fN (fun x => (0 : Int)) [i] = (0 : Int)) := by kernel_rfl

set_option maxHeartbeats 4000000 in
theorem ofStart (N : Nat) (B : Ix → Int)  (v : SV) (L' : HF) (next : RunsTo Tryd.prog 24 (headOf Tryd.f24 0) (envAt Tryd.f24.ntmps ([(2, vP 90), (3, vP 91), (8, vL 60 1 N), (9, vN N), (10, vN 0)])) (Sx.look (bE 60 N B ++ (mE 90 (fun _ => 0) ++ mE 91 (fN (fun _ => 0))))) 80 (v) (L') 140) :
    RunsTo Tryd.prog 24 [.code (bodyOf Tryd.f24)] (envOf [vL 60 1 N] Tryd.f24.ntmps) (Sx.look (bE 60 N B ++ ([]))) 80 (v) (L') 140 := by
  refine runs_more baseO (More.of (ofStart_p0 N B) ⟨?oo, rfl, ?rr⟩) (by kernel_rfl) (by kernel_rfl) rfl (gtL (by decide)) (by decide) next
  case oo =>
    clear next
    refine okn
    all_goals ((try simp (disch := omega) only [SS]); first | done | omega | assumption | (simp (disch := omega) only [SS] at *; first | done | omega | assumption) | (simp_all; done) | grind)
  case rr =>
    clear next
    try simp (disch := omega) only [SS]
    repeat' apply And.intro
    all_goals first | trivial | rfl | omega | (intros; first | trivial | rfl | omega | (simp_all; done)) | (simp_all; done)

theorem ofRound_p0 (N : Nat) (B : Ix → Int) (F : Nat → Int) (i : Nat) :
    isMore (evTill Tryd.prog [] 300 (behind Tryd.f24 0) 900 24 (headOf Tryd.f24 0) (envAt Tryd.f24.ntmps ([(2, vP 90), (3, vP 91), (8, vL 60 1 N), (9, vN N), (10, vN i)])) (bE 60 N B ++ (mE 90 (fun _ => 0) ++ mE 91 (fN (F)))) ⟨[.s true, .s true, .s true, .s true, .t, .t, .s true, .s true, .s true, .s true, .s true], 110⟩) (moreP (headOf Tryd.f24 0) ([]) Tryd.f24.ntmps ([(2, vP 90), (3, vP 91), (8, vL 60 1 N), (9, vN N), (10, vN (i + 1))]) (mE 90 (fun _ => 0) ++ mE 91 (fN (ofS F (B [i])))) 140) =
    (OkL [(decide ((↑i : Int) < (↑N : Int)), true), (decide ((0 : Int) ≤ (↑i : Int) ∧ (↑i : Int) < (↑N : Int)), true), (((0 : Nat) + (↑i : Int).toNat).blt N, true), (((0 : Nat) + (↑i : Int).toNat).blt N, true), (!decide ((B [(0 : Nat) + (↑i : Int).toNat]).tmod (8 : Int) < (0 : Int)), true), (decide ((0 : Int) ≤ IntKind.i64.wrap (IntKind.u8.wrap ((B [(0 : Nat) + (↑i : Int).toNat]).tdiv (8 : Int))) ∧ IntKind.i64.wrap (IntKind.u8.wrap ((B [(0 : Nat) + (↑i : Int).toNat]).tdiv (8 : Int))) < (↑(32 : Nat) : Int)), true), ((IntKind.i64.wrap (IntKind.u8.wrap ((B [(0 : Nat) + (↑i : Int).toNat]).tdiv (8 : Int)))).toNat.blt (32 : Nat), true), (decide ((0 : Int) ≤ IntKind.i64.wrap (IntKind.u8.wrap ((B [(0 : Nat) + (↑i : Int).toNat]).tdiv (8 : Int))) ∧ IntKind.i64.wrap (IntKind.u8.wrap ((B [(0 : Nat) + (↑i : Int).toNat]).tdiv (8 : Int))) < (↑(32 : Nat) : Int)), true), ((IntKind.i64.wrap (IntKind.u8.wrap ((B [(0 : Nat) + (↑i : Int).toNat]).tdiv (8 : Int)))).toNat.blt (32 : Nat), true)] ∧ headOf Tryd.f24 (0 : Nat) = headOf Tryd.f24 (0 : Nat) ∧ ((0 : Nat) = (0 : Nat) ∧ (0 : Nat) = (0 : Nat) ∧ ((0 : Nat) = (0 : Nat) ∧ N = N) ∧ (↑N : Int) = (↑N : Int) ∧ (↑i : Int) + (1 : Int) = IntKind.i64.wrap ((↑i : Int) + (1 : Int))) ∧ ((32 : Nat) = (32 : Nat) ∧ ∀ (i : Nat), i < (32 : Nat) → (0 : Int) = (0 : Int)) ∧ (32 : Nat) = (32 : Nat) ∧ ∀ (i_1 : Nat), i_1 < (32 : Nat) → fN (ofS F (B [i])) [i_1] = upd (fN F) [(IntKind.i64.wrap (IntKind.u8.wrap ((B [(0 : Nat) + (↑i : Int).toNat]).tdiv (8 : Int)))).toNat] (ior IntKind.u8 (fN F [(IntKind.i64.wrap (IntKind.u8.wrap ((B [(0 : Nat) + (↑i : Int).toNat]).tdiv (8 : Int)))).toNat]) (ishr IntKind.u8 (128 : Int) ((B [(0 : Nat) + (↑i : Int).toNat]).tmod (8 : Int)))) [i_1]) := by kernel_rfl

set_option maxHeartbeats 4000000 in
theorem ofRound (N : Nat) (B : Ix → Int) (F : Nat → Int) (i : Nat) (hi : i < N) (hN : N ≤ 1000000) (hb : 0 ≤ B [i] ∧ B [i] < 256) (v : SV) (L' : HF) (next : RunsTo Tryd.prog 24 (headOf Tryd.f24 0) (envAt Tryd.f24.ntmps ([(2, vP 90), (3, vP 91), (8, vL 60 1 N), (9, vN N), (10, vN (i + 1))])) (Sx.look (bE 60 N B ++ (mE 90 (fun _ => 0) ++ mE 91 (fN (ofS F (B [i])))))) 80 (v) (L') 140) :
    RunsTo Tryd.prog 24 (headOf Tryd.f24 0) (envAt Tryd.f24.ntmps ([(2, vP 90), (3, vP 91), (8, vL 60 1 N), (9, vN N), (10, vN i)])) (Sx.look (bE 60 N B ++ (mE 90 (fun _ => 0) ++ mE 91 (fN (F))))) 80 (v) (L') 140 := by
  have hw : IntKind.i64.wrap ((i : Int) + 1) = ((i + 1 : Nat) : Int) := by rw [wr64 (by omega)]; rfl
  obtain ⟨b1, b2, b3⟩ := bitI hb
  refine runs_more baseO (More.of (ofRound_p0 N B F i) ⟨?oo, rfl, ?rr⟩) (by kernel_rfl) (by kernel_rfl) rfl (gtL (by decide)) (by decide) next
  case oo =>
    clear next
    refine (okc ?_ (okc ?_ (okc ?_ (okc ?_ (okc ?_ (okc ?_ (okc ?_ (okc ?_ (okc ?_ okn)))))))))
    all_goals ((try simp (disch := omega) only [SS, b1, hw]); first | done | omega | assumption | (simp (disch := omega) only [SS, b1, hw] at *; first | done | omega | assumption) | (simp_all; done) | grind)
  case rr =>
    clear next
    simp (disch := omega) only [SS, b1, hw]
    repeat' apply And.intro
    all_goals first | trivial | (intro k hk; simp only [fN, ofS, upd, List.headD_cons]; by_cases hk2 : k = (B [i] / 8).toNat <;> simp [hk2]; done) | (simp_all; done)

theorem ofEnd_p0 (N : Nat) (B : Ix → Int) (F : Nat → Int) (i : Nat) :
    isEnd (evTill Tryd.prog [] 300 (99) 900 24 (headOf Tryd.f24 0) (envAt Tryd.f24.ntmps ([(2, vP 90), (3, vP 91), (8, vL 60 1 N), (9, vN N), (10, vN i)])) (bE 60 N B ++ (mE 90 (fun _ => 0) ++ mE 91 (fN (F)))) ⟨[.s false], 110⟩) (endP ([]) (.agg (arrT (fN F))) ([]) 140) =
    (OkL [(decide ((↑i : Int) < (↑N : Int)), false)] ∧ ((32 : Nat) = (32 : Nat) ∧ ∀ (i : Nat), i < (32 : Nat) → fN F [i] = fN F [i]) ∧ True) := by kernel_rfl

set_option maxHeartbeats 4000000 in
theorem ofEnd (N : Nat) (B : Ix → Int) (F : Nat → Int) (i : Nat) (hi : i = N) :
    RunsTo Tryd.prog 24 (headOf Tryd.f24 0) (envAt Tryd.f24.ntmps ([(2, vP 90), (3, vP 91), (8, vL 60 1 N), (9, vN N), (10, vN i)])) (Sx.look (bE 60 N B ++ (mE 90 (fun _ => 0) ++ mE 91 (fN (F))))) 80 (.agg (arrT (fN F))) (Sx.look ([])) 140 := by
  refine runs_last baseO (Sx.Ends.of (ofEnd_p0 N B F i) ⟨?oo, ?rr⟩) (by kernel_rfl) rfl (gtL (by decide)) (by decide)
  case oo =>
    refine (okc ?_ okn)
    all_goals ((try simp (disch := omega) only [SS]); first | done | omega | assumption | (simp (disch := omega) only [SS] at *; first | done | omega | assumption) | (simp_all; done) | grind)
  case rr =>
    try simp (disch := omega) only [SS]
    repeat' apply And.intro
    all_goals first | trivial | rfl | omega | (intros; first | trivial | rfl | omega | (simp_all; done)) | (simp_all; done)

theorem ofI (N : Nat) (B : Ix → Int) (hN : N ≤ 1000000) (hb : ∀ i, i < N → 0 ≤ B [i] ∧ B [i] < 256) : RunsTo Tryd.prog 24 [.code (bodyOf Tryd.f24)] (envOf [vL 60 1 N] Tryd.f24.ntmps) (Sx.look (bE 60 N B ++ ([]))) 80 (.agg (arrT (fN (ofN B N)))) (Sx.look []) 140 := by
  refine ofStart N B _ _ ?_
  suffices h : ∀ k i, i + k = N → RunsTo Tryd.prog 24 (headOf Tryd.f24 0) (envAt Tryd.f24.ntmps ([(2, vP 90), (3, vP 91), (8, vL 60 1 N), (9, vN N), (10, vN i)])) (Sx.look (bE 60 N B ++ (mE 90 (fun _ => 0) ++ mE 91 (fN (ofN B i))))) 80 (.agg (arrT (fN (ofN B N)))) (Sx.look []) 140 from h N 0 (by omega)
  intro k
  induction k with
  | zero => intro i hi; obtain rfl : i = N := by omega
            exact ofEnd i B _ i rfl
  | succ k ih => intro i hi; exact ofRound N B _ i (by omega) hN (hb i (by omega)) _ _ (ih (i + 1) (by omega))
def ofP : PC := { args := [.v (.vl 60 1 0)], heap := [⟨60, false, 1, .ta 0 (.vi .u8 1)⟩], gs := [], G := 25, tp := 223, n := 80, n' := 140, cond := fun e => decide (eN e 0 ≤ 1000000) && bndB (eI e 1) (eN e 0), v := fun e => .agg (arrT (fN (ofN (eI e 1) (eN e 0)))), post := fun e => [] }
theorem ofP_pc : PC.Runs Tryd.prog 24 Tryd.f24 (bodyOf Tryd.f24) ofP := ⟨Tryd.func24, by kernel_rfl, (fun g hg => by first | cases hg | (revert g; decide)), fun e H hc => by
  have hc : (decide (eN e 0 ≤ 1000000) && bndB (eI e 1) (eN e 0)) = true := hc
  try simp only [Bool.and_eq_true, decide_eq_true_eq, Nat.beq_eq] at hc
  exact ofI (eN e 0) (eI e 1) hc.1 (fun i hi => bndB_ok hc.2 hi)⟩
theorem trStart_p0 (F : Ix → Int) (c : Int) (k p : Nat) :
    isMore (evTill Tryd.prog [] 300 (behind Tryd.f100 0) 900 100 [.code (bodyOf Tryd.f100)] (envOf [.v (.va 60 [] 1 0 k p), vU c] Tryd.f100.ntmps) ([⟨60, false, none, 32, arrT F⟩] ++ ([])) ⟨[], 80⟩) (moreP (headOf Tryd.f100 0) ([]) Tryd.f100.ntmps ([(0, .v (.va 60 [] 1 0 (k) p)), (1, vU c)]) ([]) 140) =
    (OkL [] ∧ headOf Tryd.f100 (0 : Nat) = headOf Tryd.f100 (0 : Nat) ∧ (((0 : Nat) = (0 : Nat) ∧ k = k ∧ p = p) ∧ c = c) ∧ True) := by kernel_rfl

set_option maxHeartbeats 4000000 in
theorem trStart (F : Ix → Int) (c : Int) (k p : Nat)  (v : SV) (L' : HF) (next : RunsTo Tryd.prog 100 (headOf Tryd.f100 0) (envAt Tryd.f100.ntmps ([(0, .v (.va 60 [] 1 0 (k) p)), (1, vU c)])) (Sx.look ([⟨60, false, none, 32, arrT F⟩] ++ ([]))) 80 (v) (L') 140) :
    RunsTo Tryd.prog 100 [.code (bodyOf Tryd.f100)] (envOf [.v (.va 60 [] 1 0 k p), vU c] Tryd.f100.ntmps) (Sx.look ([⟨60, false, none, 32, arrT F⟩] ++ ([]))) 80 (v) (L') 140 := by
  refine runs_more baseO (More.of (trStart_p0 F c k p) ⟨?oo, rfl, ?rr⟩) (by kernel_rfl) (by kernel_rfl) rfl (gtL (by decide)) (by decide) next
  case oo =>
    clear next
    refine okn
    all_goals ((try simp (disch := omega) only [SS]); first | done | omega | assumption | (simp (disch := omega) only [SS] at *; first | done | omega | assumption) | (simp_all; done) | grind)
  case rr =>
    clear next
    try simp (disch := omega) only [SS]
    repeat' apply And.intro
    all_goals first | trivial | rfl | omega | (intros; first | trivial | rfl | omega | (simp_all; done)) | (simp_all; done)

theorem trRound_p0 (F : Ix → Int) (c : Int) (k p : Nat) :
    isMore (evTill Tryd.prog [] 300 (behind Tryd.f100 0) 900 100 (headOf Tryd.f100 0) (envAt Tryd.f100.ntmps ([(0, .v (.va 60 [] 1 0 (k + 1) p)), (1, vU c)])) ([⟨60, false, none, 32, arrT F⟩] ++ ([])) ⟨[.s true, .s true, .s true, .s true, .s true, .s true], 110⟩) (moreP (headOf Tryd.f100 0) ([]) Tryd.f100.ntmps ([(0, .v (.va 60 [] 1 0 (k) p)), (1, vU c)]) ([]) 140) =
    (OkL [(decide ((↑(k + (1 : Nat)) : Int) > (0 : Int)), true), (decide ((0 : Int) ≤ IntKind.i64.wrap ((↑(k + (1 : Nat)) : Int) - (1 : Int)) ∧ IntKind.i64.wrap ((↑(k + (1 : Nat)) : Int) - (1 : Int)) < (↑(k + (1 : Nat)) : Int)), true), (((0 : Nat) + (IntKind.i64.wrap ((↑(k + (1 : Nat)) : Int) - (1 : Int))).toNat).blt (32 : Nat), true), (F [(0 : Nat) + (IntKind.i64.wrap ((↑(k + (1 : Nat)) : Int) - (1 : Int))).toNat] == c, true), ((k + (1 : Nat)).ble p, true), (decide ((0 : Int) ≤ IntKind.i64.wrap ((↑(k + (1 : Nat)) : Int) - (1 : Int)) ∧ IntKind.i64.wrap ((↑(k + (1 : Nat)) : Int) - (1 : Int)) ≤ (↑(k + (1 : Nat)) : Int)), true)] ∧ headOf Tryd.f100 (0 : Nat) = headOf Tryd.f100 (0 : Nat) ∧ (((0 : Nat) = (0 : Nat) ∧ k = (IntKind.i64.wrap ((↑(k + (1 : Nat)) : Int) - (1 : Int))).toNat ∧ p = p) ∧ c = c) ∧ True) := by kernel_rfl

set_option maxHeartbeats 4000000 in
theorem trRound (F : Ix → Int) (c : Int) (k p : Nat) (hk : k < 32) (hp : k < p) (he : F [k] = c) (v : SV) (L' : HF) (next : RunsTo Tryd.prog 100 (headOf Tryd.f100 0) (envAt Tryd.f100.ntmps ([(0, .v (.va 60 [] 1 0 (k) p)), (1, vU c)])) (Sx.look ([⟨60, false, none, 32, arrT F⟩] ++ ([]))) 80 (v) (L') 140) :
    RunsTo Tryd.prog 100 (headOf Tryd.f100 0) (envAt Tryd.f100.ntmps ([(0, .v (.va 60 [] 1 0 (k + 1) p)), (1, vU c)])) (Sx.look ([⟨60, false, none, 32, arrT F⟩] ++ ([]))) 80 (v) (L') 140 := by
  have hw : IntKind.i64.wrap (((k + 1 : Nat) : Int) - 1) = (k : Int) := by rw [wr64 (by omega)]; omega
  refine runs_more baseO (More.of (trRound_p0 F c k p) ⟨?oo, rfl, ?rr⟩) (by kernel_rfl) (by kernel_rfl) rfl (gtL (by decide)) (by decide) next
  case oo =>
    clear next
    refine (okc ?_ (okc ?_ (okc ?_ (okc ?_ (okc ?_ (okc ?_ okn))))))
    all_goals ((try simp (disch := omega) only [SS, hw, Nat.zero_add, Int.toNat_natCast, he]); first | done | omega | assumption | (simp (disch := omega) only [SS, hw, Nat.zero_add, Int.toNat_natCast, he] at *; first | done | omega | assumption) | (simp_all; done) | grind)
  case rr =>
    clear next
    try simp (disch := omega) only [SS, hw, Nat.zero_add, Int.toNat_natCast, he]
    repeat' apply And.intro
    all_goals first | trivial | rfl | omega | (intros; first | trivial | rfl | omega | (simp_all; done)) | (simp_all; done)

theorem trEnd0_p0 (F : Ix → Int) (c : Int) (k p : Nat) :
    isEnd (evTill Tryd.prog [] 300 (99) 900 100 (headOf Tryd.f100 0) (envAt Tryd.f100.ntmps ([(0, .v (.va 60 [] 1 0 (0) p)), (1, vU c)])) ([⟨60, false, none, 32, arrT F⟩] ++ ([])) ⟨[.f], 110⟩) (endP ([]) (.v (.va 60 [] 1 0 0 p)) ([]) 140) =
    (OkL [] ∧ ((0 : Nat) = (0 : Nat) ∧ (0 : Nat) = (0 : Nat) ∧ p = p) ∧ True) := by kernel_rfl

set_option maxHeartbeats 4000000 in
theorem trEnd0 (F : Ix → Int) (c : Int) (k p : Nat)  :
    RunsTo Tryd.prog 100 (headOf Tryd.f100 0) (envAt Tryd.f100.ntmps ([(0, .v (.va 60 [] 1 0 (0) p)), (1, vU c)])) (Sx.look ([⟨60, false, none, 32, arrT F⟩] ++ ([]))) 80 (.v (.va 60 [] 1 0 0 p)) (Sx.look ([])) 140 := by
  refine runs_last baseO (Sx.Ends.of (trEnd0_p0 F c k p) ⟨?oo, ?rr⟩) (by kernel_rfl) rfl (gtL (by decide)) (by decide)
  case oo =>
    refine okn
    all_goals ((try simp (disch := omega) only [SS]); first | done | omega | assumption | (simp (disch := omega) only [SS] at *; first | done | omega | assumption) | (simp_all; done) | grind)
  case rr =>
    try simp (disch := omega) only [SS]
    repeat' apply And.intro
    all_goals first | trivial | rfl | omega | (intros; first | trivial | rfl | omega | (simp_all; done)) | (simp_all; done)

theorem trEnd1_p0 (F : Ix → Int) (c : Int) (k p : Nat) :
    isEnd (evTill Tryd.prog [] 300 (99) 900 100 (headOf Tryd.f100 0) (envAt Tryd.f100.ntmps ([(0, .v (.va 60 [] 1 0 (k + 1) p)), (1, vU c)])) ([⟨60, false, none, 32, arrT F⟩] ++ ([])) ⟨[.s true, .s true, .s true, .s false], 110⟩) (endP ([]) (.v (.va 60 [] 1 0 (k + 1) p)) ([]) 140) =
    (OkL [(decide ((↑(k + (1 : Nat)) : Int) > (0 : Int)), true), (decide ((0 : Int) ≤ IntKind.i64.wrap ((↑(k + (1 : Nat)) : Int) - (1 : Int)) ∧ IntKind.i64.wrap ((↑(k + (1 : Nat)) : Int) - (1 : Int)) < (↑(k + (1 : Nat)) : Int)), true), (((0 : Nat) + (IntKind.i64.wrap ((↑(k + (1 : Nat)) : Int) - (1 : Int))).toNat).blt (32 : Nat), true), (F [(0 : Nat) + (IntKind.i64.wrap ((↑(k + (1 : Nat)) : Int) - (1 : Int))).toNat] == c, false)] ∧ ((0 : Nat) = (0 : Nat) ∧ k + (1 : Nat) = k + (1 : Nat) ∧ p = p) ∧ True) := by kernel_rfl

set_option maxHeartbeats 4000000 in
theorem trEnd1 (F : Ix → Int) (c : Int) (k p : Nat) (hk : k < 32) (hp : k < p) (he : F [k] ≠ c) :
    RunsTo Tryd.prog 100 (headOf Tryd.f100 0) (envAt Tryd.f100.ntmps ([(0, .v (.va 60 [] 1 0 (k + 1) p)), (1, vU c)])) (Sx.look ([⟨60, false, none, 32, arrT F⟩] ++ ([]))) 80 (.v (.va 60 [] 1 0 (k + 1) p)) (Sx.look ([])) 140 := by
  have hw : IntKind.i64.wrap (((k + 1 : Nat) : Int) - 1) = (k : Int) := by rw [wr64 (by omega)]; omega
  refine runs_last baseO (Sx.Ends.of (trEnd1_p0 F c k p) ⟨?oo, ?rr⟩) (by kernel_rfl) rfl (gtL (by decide)) (by decide)
  case oo =>
    refine (okc ?_ (okc ?_ (okc ?_ (okc ?_ okn))))
    all_goals ((try simp (disch := omega) only [SS, hw, Nat.zero_add, Int.toNat_natCast, he]); first | done | omega | assumption | (simp (disch := omega) only [SS, hw, Nat.zero_add, Int.toNat_natCast, he] at *; first | done | omega | assumption) | (simp_all; done) | grind)
  case rr =>
    try simp (disch := omega) only [SS, hw, Nat.zero_add, Int.toNat_natCast, he]
    repeat' apply And.intro
    all_goals first | trivial | rfl | omega | (intros; first | trivial | rfl | omega | (simp_all; done)) | (simp_all; done)

theorem trI (F : Ix → Int) (c : Int) (k p : Nat) (hk : k ≤ 32) (hp : k ≤ p) : RunsTo Tryd.prog 100 [.code (bodyOf Tryd.f100)] (envOf [.v (.va 60 [] 1 0 k p), vU c] Tryd.f100.ntmps) (Sx.look ([⟨60, false, none, 32, arrT F⟩] ++ ([]))) 80 (.v (.va 60 [] 1 0 (cutN F c k) p)) (Sx.look []) 140 := by
  refine trStart F c k p _ _ ?_
  induction k with
  | zero => exact trEnd0 F c 0 p
  | succ k ih =>
    by_cases he : F [k] = c
    · have : cutN F c (k + 1) = cutN F c k := by simp [cutN, he]
      rw [this]
      exact trRound F c k p (by omega) (by omega) he _ _ (ih (by omega) (by omega))
    · have : cutN F c (k + 1) = k + 1 := by simp [cutN, he]
      rw [this]
      exact trEnd1 F c k p (by omega) (by omega) he
def trP : PC := { args := [.v (.va 60 1 0 1 2), .v (.vi .u8 3)], heap := [⟨60, false, 32, .tn 32 (.vi .u8 5)⟩], gs := [], G := 25, tp := 223, n := 80, n' := 140, cond := fun e => decide (eN e 0 = 0) && decide (eN e 1 ≤ 32) && decide (eN e 1 ≤ eN e 2), v := fun e => .v (.va 60 [] 1 0 (cutN (eI e 5) (eI e 3 []) (eN e 1)) (eN e 2)), post := fun e => [] }
theorem trP_pc : PC.Runs Tryd.prog 100 Tryd.f100 (bodyOf Tryd.f100) trP := ⟨Tryd.func100, by kernel_rfl, (fun g hg => by first | cases hg | (revert g; decide)), fun e H hc => by
  have hc : (decide (eN e 0 = 0) && decide (eN e 1 ≤ 32) && decide (eN e 1 ≤ eN e 2)) = true := hc
  try simp only [Bool.and_eq_true, decide_eq_true_eq, Nat.beq_eq] at hc
  exact by obtain ⟨⟨h1, h2⟩, h3⟩ := hc; have := trI (eI e 5) (eI e 3 []) (eN e 1) (eN e 2) h2 h3; simp only [trP, PC.pre, PC.cargs, textsIn, sentEnts, List.map, PE.inst, PF.inst, PA.inst, PT.inst, cst, h1, List.nil_append, List.append_nil]; exact this⟩
theorem hasI_p0 (F : Ix → Int) (c : Int) :
    isEnd (evTill Tryd.prog [] 300 (99) 900 28 [.code (bodyOf Tryd.f28)] (envOf [.agg (arrT F), vU c] Tryd.f28.ntmps) ([] ++ ([])) ⟨[.t, .t, .s true, .s true, .s true], 80⟩) (endP ([]) (vB (hasM F c)) ([]) 90) =
    (OkL [(!decide (c.tmod (8 : Int) < (0 : Int)), true), (decide ((0 : Int) ≤ IntKind.i64.wrap (IntKind.u8.wrap (c.tdiv (8 : Int))) ∧ IntKind.i64.wrap (IntKind.u8.wrap (c.tdiv (8 : Int))) < (↑(32 : Nat) : Int)), true), ((IntKind.i64.wrap (IntKind.u8.wrap (c.tdiv (8 : Int)))).toNat.blt (32 : Nat), true)] ∧ hasM F c = (iand IntKind.u8 (F [(IntKind.i64.wrap (IntKind.u8.wrap (c.tdiv (8 : Int)))).toNat]) (ishr IntKind.u8 (128 : Int) (c.tmod (8 : Int))) != (0 : Int)) ∧ True) := by kernel_rfl

set_option maxHeartbeats 4000000 in
theorem hasI (F : Ix → Int) (c : Int) (hc : 0 ≤ c ∧ c < 256) :
    RunsTo Tryd.prog 28 [.code (bodyOf Tryd.f28)] (envOf [.agg (arrT F), vU c] Tryd.f28.ntmps) (Sx.look ([] ++ ([]))) 80 (vB (hasM F c)) (Sx.look ([])) 90 := by
  obtain ⟨b1, b2, b3⟩ := bitI hc
  refine runs_last baseO (Sx.Ends.of (hasI_p0 F c) ⟨?oo, ?rr⟩) (by kernel_rfl) rfl (gtL (by decide)) (by decide)
  case oo =>
    refine (okc ?_ (okc ?_ (okc ?_ okn)))
    all_goals ((try simp (disch := omega) only [SS, b1]); first | done | omega | assumption | (simp (disch := omega) only [SS, b1] at *; first | done | omega | assumption) | (simp_all; done) | grind)
  case rr =>
    refine ⟨?_, trivial⟩
    simp only [hasM, b1]
    rfl

def hasP : PC := { args := [.agg (.tn 32 (.vi .u8 0)), .v (.vi .u8 1)], heap := [], gs := [], G := 25, tp := 223, n := 80, n' := 90, cond := fun e => decide (0 ≤ eI e 1 [] ∧ eI e 1 [] < 256), v := fun e => vB (hasM (eI e 0) (eI e 1 [])), post := fun e => [] }
theorem hasP_pc : PC.Runs Tryd.prog 28 Tryd.f28 (bodyOf Tryd.f28) hasP := ⟨Tryd.func28, by kernel_rfl, (fun g hg => by first | cases hg | (revert g; decide)), fun e H hc => by
  have hc : (decide (0 ≤ eI e 1 [] ∧ eI e 1 [] < 256)) = true := hc
  try simp only [Bool.and_eq_true, decide_eq_true_eq, Nat.beq_eq] at hc
  exact hasI (eI e 0) (eI e 1 []) hc⟩
def sumsH : List (FuncId × Summ) := [(28, hasP.summ 50)]
theorem baseH : Base0 Tryd.prog sumsH := (baseO.cons Tryd.func28 (by kernel_rfl) (PC.summ_ok hasP_pc gtopG))
theorem byStart_p0 (F : Ix → Int) :
    isMore (evTill Tryd.prog sumsH 300 (behind Tryd.f29 0) 900 29 [.code (bodyOf Tryd.f29)] (envOf [.agg (arrT F)] Tryd.f29.ntmps) ([] ++ ([])) ⟨[], 80⟩) (moreP (headOf Tryd.f29 0) ([((90 : Nat), Rn.to (80 : Nat)), ((101 : Nat), Rn.nil (1 : Nat))]) Tryd.f29.ntmps ([(1, vP 90), (3, rS 101 ([])), (5, vN 0)]) (mE 90 F ++ rE 101 ([])) 150) =
    (OkL [] ∧ headOf Tryd.f29 (0 : Nat) = headOf Tryd.f29 (0 : Nat) ∧ ((0 : Nat) = (0 : Nat) ∧ (0 : Nat) = (0 : Nat) ∧ (0 : Int) = (0 : Int)) ∧ ((32 : Nat) = (32 : Nat) ∧ ∀ (i : Nat), i < (32 : Nat) → F [i] = F [i]) ∧ (0 : Nat) = (0 : Nat)) := by kernel_rfl

set_option maxHeartbeats 4000000 in
theorem byStart (F : Ix → Int)  (v : SV) (L' : HF) (next : RunsTo Tryd.prog 29 (headOf Tryd.f29 0) (envAt Tryd.f29.ntmps ([(1, vP 90), (3, rS 101 ([])), (5, vN 0)])) (Sx.look ([] ++ (mE 90 F ++ rE 101 ([])))) 80 (v) (L') 150) :
    RunsTo Tryd.prog 29 [.code (bodyOf Tryd.f29)] (envOf [.agg (arrT F)] Tryd.f29.ntmps) (Sx.look ([] ++ ([]))) 80 (v) (L') 150 := by
  refine runs_more baseH (More.of (byStart_p0 F) ⟨?oo, rfl, ?rr⟩) (by kernel_rfl) (by kernel_rfl) rfl (gtL (by decide)) (by decide) next
  case oo =>
    clear next
    refine okn
    all_goals ((try simp (disch := omega) only [SS]); first | done | omega | assumption | (simp (disch := omega) only [SS] at *; first | done | omega | assumption) | (simp_all; done) | grind)
  case rr =>
    clear next
    try simp (disch := omega) only [SS]
    repeat' apply And.intro
    all_goals first | trivial | rfl | omega | (intros; first | trivial | rfl | omega | (simp_all; done)) | (simp_all; done)

theorem byHas_p0 (F : Ix → Int) (a : List UInt8) (i : Nat) :
    isMore (evTill Tryd.prog sumsH 300 (behind Tryd.f29 0) 900 29 (headOf Tryd.f29 0) (envAt Tryd.f29.ntmps ([(1, vP 90), (3, rS 101 (a)), (5, vN i)])) ([] ++ (mE 90 F ++ rE 101 (a))) ⟨[.s true, .s true, .s true, .t, .s true, .s true], 110⟩) (moreP (headOf Tryd.f29 0) ([((101 : Nat), Rn.to (121 : Nat))]) Tryd.f29.ntmps ([(1, vP 90), (3, rS 101 ((a ++ [UInt8.ofNat i]))), (5, vN (i + 1))]) (mE 90 F ++ rE 101 ((a ++ [UInt8.ofNat i]))) 150) =
    (OkL [(decide ((↑i : Int) < (256 : Int)), true), (decide ((0 : Int) ≤ IntKind.u8.wrap (↑i : Int) ∧ IntKind.u8.wrap (↑i : Int) < (256 : Int)), true), (hasM (fun js => F js) (IntKind.u8.wrap (↑i : Int)), true), (((0 : Nat) + a.length).ble a.length, true), (decide (((2 : Nat) * (a.length + (1 : Nat)) + (192 : Nat)) * (1 : Nat) ≤ (281474976710656 : Nat)), true)] ∧ headOf Tryd.f29 (0 : Nat) = headOf Tryd.f29 (0 : Nat) ∧ ((0 : Nat) = (0 : Nat) ∧ ((0 : Nat) = (0 : Nat) ∧ (a ++ [UInt8.ofNat i]).length = a.length + (1 : Nat)) ∧ (↑i : Int) + (1 : Int) = IntKind.i64.wrap ((↑i : Int) + (1 : Int))) ∧ ((32 : Nat) = (32 : Nat) ∧ ∀ (i : Nat), i < (32 : Nat) → F [i] = F [i]) ∧ (a ++ [UInt8.ofNat i]).length = a.length + (1 : Nat) ∧ ∀ (i_1 : Nat), i_1 < (a ++ [UInt8.ofNat i]).length → (↑((a ++ [UInt8.ofNat i]).getD i_1 (0 : UInt8)).toNat : Int) = appF a.length (0 : Nat) (fun is => (↑(a.getD (List.headD is (0 : Nat)) (0 : UInt8)).toNat : Int)) (fun js => IntKind.u8.wrap (↑i : Int)) [i_1]) := by kernel_rfl

set_option maxHeartbeats 4000000 in
theorem byHas (F : Ix → Int) (a : List UInt8) (i : Nat) (hi : i < 256) (ha : a.length ≤ 1000) (hh : hasM F i = true) (v : SV) (L' : HF) (next : RunsTo Tryd.prog 29 (headOf Tryd.f29 0) (envAt Tryd.f29.ntmps ([(1, vP 90), (3, rS 101 ((a ++ [UInt8.ofNat i]))), (5, vN (i + 1))])) (Sx.look ([] ++ (mE 90 F ++ rE 101 ((a ++ [UInt8.ofNat i]))))) 80 (v) (L') 150) :
    RunsTo Tryd.prog 29 (headOf Tryd.f29 0) (envAt Tryd.f29.ntmps ([(1, vP 90), (3, rS 101 (a)), (5, vN i)])) (Sx.look ([] ++ (mE 90 F ++ rE 101 (a)))) 80 (v) (L') 150 := by
  have hw : IntKind.i64.wrap ((i : Int) + 1) = ((i + 1 : Nat) : Int) := by rw [wr64 (by omega)]; rfl
  have hu : IntKind.u8.wrap (i : Int) = (i : Int) := by simp only [IntKind.wrap, IntKind.bits, IntKind.signed]; simp; omega
  refine runs_more baseH (More.of (byHas_p0 F a i) ⟨?oo, rfl, ?rr⟩) (by kernel_rfl) (by kernel_rfl) rfl (gtL (by decide)) (by decide) next
  case oo =>
    clear next
    refine (okc ?_ (okc ?_ (okc ?_ (okc ?_ (okc ?_ okn)))))
    all_goals ((try simp (disch := omega) only [SS, hu, hw, hh, Go.Sx.sum, strEl, List.length_append, List.length_singleton]); first | done | omega | assumption | (simp (disch := omega) only [SS, hu, hw, hh, Go.Sx.sum, strEl, List.length_append, List.length_singleton] at *; first | done | omega | assumption) | (simp_all; done) | grind)
  case rr =>
    clear next
    simp (disch := omega) only [SS, hw, hu, List.length_append, List.length_singleton, Go.Sx.sum]
    repeat' apply And.intro
    all_goals first | trivial | rfl | omega | exact app_byte1 _ _ _ (by have h8 := u8w hi; rw [hu] at h8; first | exact h8 | (show IntKind.u8.wrap _ = _; rw [hu]; exact h8)) | (simp_all; done) | (simp_all; done)

theorem byNot_p0 (F : Ix → Int) (a : List UInt8) (i : Nat) :
    isMore (evTill Tryd.prog sumsH 300 (behind Tryd.f29 0) 900 29 (headOf Tryd.f29 0) (envAt Tryd.f29.ntmps ([(1, vP 90), (3, rS 101 (a)), (5, vN i)])) ([] ++ (mE 90 F ++ rE 101 (a))) ⟨[.s true, .s true, .s false], 110⟩) (moreP (headOf Tryd.f29 0) ([]) Tryd.f29.ntmps ([(1, vP 90), (3, rS 101 (a)), (5, vN (i + 1))]) (mE 90 F ++ rE 101 (a)) 150) =
    (OkL [(decide ((↑i : Int) < (256 : Int)), true), (decide ((0 : Int) ≤ IntKind.u8.wrap (↑i : Int) ∧ IntKind.u8.wrap (↑i : Int) < (256 : Int)), true), (hasM (fun js => F js) (IntKind.u8.wrap (↑i : Int)), false)] ∧ headOf Tryd.f29 (0 : Nat) = headOf Tryd.f29 (0 : Nat) ∧ ((0 : Nat) = (0 : Nat) ∧ ((0 : Nat) = (0 : Nat) ∧ a.length = a.length) ∧ (↑i : Int) + (1 : Int) = IntKind.i64.wrap ((↑i : Int) + (1 : Int))) ∧ ((32 : Nat) = (32 : Nat) ∧ ∀ (i : Nat), i < (32 : Nat) → F [i] = F [i]) ∧ a.length = a.length ∧ ∀ (i : Nat), i < a.length → (↑(a.getD i (0 : UInt8)).toNat : Int) = (↑(a.getD i (0 : UInt8)).toNat : Int)) := by kernel_rfl

set_option maxHeartbeats 4000000 in
theorem byNot (F : Ix → Int) (a : List UInt8) (i : Nat) (hi : i < 256) (ha : a.length ≤ 1000) (hh : hasM F i = false) (v : SV) (L' : HF) (next : RunsTo Tryd.prog 29 (headOf Tryd.f29 0) (envAt Tryd.f29.ntmps ([(1, vP 90), (3, rS 101 (a)), (5, vN (i + 1))])) (Sx.look ([] ++ (mE 90 F ++ rE 101 (a)))) 80 (v) (L') 150) :
    RunsTo Tryd.prog 29 (headOf Tryd.f29 0) (envAt Tryd.f29.ntmps ([(1, vP 90), (3, rS 101 (a)), (5, vN i)])) (Sx.look ([] ++ (mE 90 F ++ rE 101 (a)))) 80 (v) (L') 150 := by
  have hw : IntKind.i64.wrap ((i : Int) + 1) = ((i + 1 : Nat) : Int) := by rw [wr64 (by omega)]; rfl
  have hu : IntKind.u8.wrap (i : Int) = (i : Int) := by simp only [IntKind.wrap, IntKind.bits, IntKind.signed]; simp; omega
  refine runs_more baseH (More.of (byNot_p0 F a i) ⟨?oo, rfl, ?rr⟩) (by kernel_rfl) (by kernel_rfl) rfl (gtL (by decide)) (by decide) next
  case oo =>
    clear next
    refine (okc ?_ (okc ?_ (okc ?_ okn)))
    all_goals ((try simp (disch := omega) only [SS, hu, hw, hh]); first | done | omega | assumption | (simp (disch := omega) only [SS, hu, hw, hh] at *; first | done | omega | assumption) | (simp_all; done) | grind)
  case rr =>
    clear next
    try simp (disch := omega) only [SS, hu, hw, hh]
    repeat' apply And.intro
    all_goals first | trivial | rfl | omega | (intros; first | trivial | rfl | omega | (simp_all; done)) | (simp_all; done)

theorem byEnd_p0 (F : Ix → Int) (a : List UInt8) (i : Nat) :
    isEnd (evTill Tryd.prog sumsH 300 (99) 900 29 (headOf Tryd.f29 0) (envAt Tryd.f29.ntmps ([(1, vP 90), (3, rS 101 (a)), (5, vN i)])) ([] ++ (mE 90 F ++ rE 101 (a))) ⟨[.s false], 110⟩) (endP ([]) (rS 101 a) (rE 101 a) 150) =
    (OkL [(decide ((↑i : Int) < (256 : Int)), false)] ∧ ((0 : Nat) = (0 : Nat) ∧ a.length = a.length) ∧ a.length = a.length ∧ ∀ (i : Nat), i < a.length → (↑(a.getD i (0 : UInt8)).toNat : Int) = (↑(a.getD i (0 : UInt8)).toNat : Int)) := by kernel_rfl

set_option maxHeartbeats 4000000 in
theorem byEnd (F : Ix → Int) (a : List UInt8) (i : Nat) (hi : i = 256) :
    RunsTo Tryd.prog 29 (headOf Tryd.f29 0) (envAt Tryd.f29.ntmps ([(1, vP 90), (3, rS 101 (a)), (5, vN i)])) (Sx.look ([] ++ (mE 90 F ++ rE 101 (a)))) 80 (rS 101 a) (Sx.look (rE 101 a)) 150 := by
  refine runs_last baseH (Sx.Ends.of (byEnd_p0 F a i) ⟨?oo, ?rr⟩) (by kernel_rfl) rfl (gtL (by decide)) (by decide)
  case oo =>
    refine (okc ?_ okn)
    all_goals ((try simp (disch := omega) only [SS]); first | done | omega | assumption | (simp (disch := omega) only [SS] at *; first | done | omega | assumption) | (simp_all; done) | grind)
  case rr =>
    try simp (disch := omega) only [SS]
    repeat' apply And.intro
    all_goals first | trivial | rfl | omega | (intros; first | trivial | rfl | omega | (simp_all; done)) | (simp_all; done)

theorem bytesM_len (F : Ix → Int) : ∀ i, (bytesM F i).length ≤ i
  | 0 => Nat.le_refl _
  | i + 1 => by
    have := bytesM_len F i
    simp only [bytesM, List.length_append]
    split <;> simp <;> omega
theorem bytesI (F : Ix → Int) : RunsTo Tryd.prog 29 [.code (bodyOf Tryd.f29)] (envOf [.agg (arrT F)] Tryd.f29.ntmps) (Sx.look ([] ++ ([]))) 80 (rS 101 (bytesM F 256)) (Sx.look (rE 101 (bytesM F 256))) 150 := by
  refine byStart F _ _ ?_
  suffices h : ∀ k i, i + k = 256 → RunsTo Tryd.prog 29 (headOf Tryd.f29 0) (envAt Tryd.f29.ntmps ([(1, vP 90), (3, rS 101 (bytesM F i)), (5, vN i)])) (Sx.look ([] ++ (mE 90 F ++ rE 101 (bytesM F i)))) 80 (rS 101 (bytesM F 256)) (Sx.look (rE 101 (bytesM F 256))) 150 from h 256 0 (by omega)
  intro k
  induction k with
  | zero => intro i hi; obtain rfl : i = 256 := by omega
            exact byEnd F _ 256 rfl
  | succ k ih =>
    intro i hi
    have hl := bytesM_len F i
    have h2 := ih (i + 1) (by omega)
    cases hh : hasM F i with
    | true =>
      have e : bytesM F (i + 1) = bytesM F i ++ [UInt8.ofNat i] := by simp [bytesM, hh]
      rw [e] at h2
      exact byHas F _ i (by omega) (by omega) hh _ _ h2
    | false =>
      have e : bytesM F (i + 1) = bytesM F i := by simp [bytesM, hh]
      rw [e] at h2
      exact byNot F _ i (by omega) (by omega) hh _ _ h2
def bytesP : PC := { args := [.agg (.tn 32 (.vi .u8 0))], heap := [], gs := [], G := 25, tp := 223, n := 80, n' := 150, cond := fun e => true, v := fun e => rS 101 (bytesM (eI e 0) 256), post := fun e => rE 101 (bytesM (eI e 0) 256) }
theorem bytesP_pc : PC.Runs Tryd.prog 29 Tryd.f29 (bodyOf Tryd.f29) bytesP := ⟨Tryd.func29, by kernel_rfl, (fun g hg => by first | cases hg | (revert g; decide)), fun e H hc => by
  have hc : (true) = true := hc
  try simp only [Bool.and_eq_true, decide_eq_true_eq, Nat.beq_eq] at hc
  exact bytesI (eI e 0)⟩
end Go.Proofs.YtealbjkhjpmilaaDoor
