/- BufferLast: the steps of the law, by the kernel. -/
import Derived.Test.YtdmkdmaofgjelaaDoorBaC
set_option linter.unusedSimpArgs false
set_option linter.unusedVariables false
set_option maxRecDepth 100000
namespace Go.Proofs.YtdmkdmaofgjelaaDoor
open Go.Sx

def errs (t : List UInt8) : List Ent := sentEnts 16 140 [(2, t)]
def mf0 : Ix → Nat := fun is => is.headD 0
def famE (N : Nat) (bl : Ix → Nat) (B : Ix → Int) : List Ent := [⟨101, false, some (N, fun i => bl [i]), 1, .vi .u8 B⟩]
def X4 (t : List UInt8) (N : Nat) (K M : Ix → Int) (bl : Ix → Nat) (B : Ix → Int) : List Ent := errs t ++ (actE N K M mf0 bl ++ famE N bl B)
def bufE (m base lost : Int) (tx : List UInt8) : List Ent := [⟨120, true, none, 4, .tc (.vi .i64 fun _ => m) (.tc (.vi .i64 fun _ => base) (.tc (.vi .i64 fun _ => lost) (.tc (.vl 121 (fun _ => 0) 1 [] (fun _ => tx.length)) .t0)))⟩, ⟨121, true, none, 1, .ta tx.length (strEl tx)⟩]
def outE (N i : Nat) (all : List UInt8) : List (Nat × SV) := [(5, .v (.vp 120 (fun _ => 0) [])), (7, .v (.vs fun _ => all)), (30, actV N), (31, .v (.vi .i64 fun _ => N)), (32, .v (.vi .i64 fun _ => i))]
def inE (N i j : Nat) (bl : Ix → Nat) (before : Int) (all : List UInt8) : List (Nat × SV) := [(5, .v (.vp 120 (fun _ => 0) [])), (7, .v (.vs fun _ => all)), (10, .v (.vi .i64 fun _ => before)), (30, actV N), (31, .v (.vi .i64 fun _ => N)), (32, .v (.vi .i64 fun _ => i)), (43, .v (.vl 101 (fun _ => i) 1 [] (fun _ => bl [i]))), (44, .v (.vi .i64 fun _ => bl [i])), (45, .v (.vi .i64 fun _ => j))]

theorem b_long (t : List UInt8) (most : Int) (N : Nat) (K M : Ix → Int) (bl : Ix → Nat) (B : Ix → Int) :
    isEnd (evTill Tryd.prog sums1 100 (behind Tryd.f4 0) 300 4 [.code (bodyOf Tryd.f4)] (envOf [.v (.vi .i64 fun _ => most), actV N] 109) (X4 t N K M bl B ++ []) ⟨[.f, .s true, .s true], 110⟩) (endP [] (.v (.vb fun _ => true)) [] 200) =
    (OkL [(N.beq N, true), (longB N bl, true)] ∧ true = true ∧ True) := by kernel_rfl


theorem b_lo (t : List UInt8) (most : Int) (N : Nat) (K M : Ix → Int) (bl : Ix → Nat) (B : Ix → Int) :
    isEnd (evTill Tryd.prog sums1 100 (behind Tryd.f4 0) 300 4 [.code (bodyOf Tryd.f4)] (envOf [.v (.vi .i64 fun _ => most), actV N] 109) (X4 t N K M bl B ++ []) ⟨[.f, .s true, .s false, .s false, .t, .t], 110⟩) (endP [] (.v (.vb fun _ => true)) [] 200) =
    (OkL [(N.beq N, true), (longB N bl, false), (decide (most ≥ (1 : Int)), false)] ∧ true = true ∧ True) := by kernel_rfl


theorem b_hi (t : List UInt8) (most : Int) (N : Nat) (K M : Ix → Int) (bl : Ix → Nat) (B : Ix → Int) :
    isEnd (evTill Tryd.prog sums1 100 (behind Tryd.f4 0) 300 4 [.code (bodyOf Tryd.f4)] (envOf [.v (.vi .i64 fun _ => most), actV N] 109) (X4 t N K M bl B ++ []) ⟨[.f, .s true, .s false, .s true, .s true, .t], 110⟩) (endP [] (.v (.vb fun _ => true)) [] 200) =
    (OkL
    [(N.beq N, true), (longB N bl, false), (decide (most ≥ (1 : Int)), true), (!decide (most ≤ (1000 : Int)), true)] ∧
  true = true ∧ True) := by kernel_rfl


theorem b_start (t : List UInt8) (most : Int) (N : Nat) (K M : Ix → Int) (bl : Ix → Nat) (B : Ix → Int) :
    isMore (evTill Tryd.prog sums1 100 (behind Tryd.f4 0) 300 4 [.code (bodyOf Tryd.f4)] (envOf [.v (.vi .i64 fun _ => most), actV N] 109) (X4 t N K M bl B ++ []) ⟨[.f, .s true, .s false, .s true, .s false, .f, .f], 110⟩) (moreP (headOf Tryd.f4 0) [(120, .to 150), (121, .nil 1)] 109 (outE N 0 []) (bufE most 0 0 []) 200) =
    (OkL
    [(N.beq N, true), (longB N bl, false), (decide (most ≥ (1 : Int)), true), (!decide (most ≤ (1000 : Int)), false)] ∧
  headOf Tryd.f4 (0 : Nat) = headOf Tryd.f4 (0 : Nat) ∧
    ((0 : Nat) = (0 : Nat) ∧
        ([] : List UInt8) = [] ∧ ((0 : Nat) = (0 : Nat) ∧ N = N) ∧ (↑N : Int) = (↑N : Int) ∧ (↑(0 : Nat) : Int) = (0 : Int)) ∧
      (most = most ∧ (0 : Int) = (0 : Int) ∧ (0 : Int) = (0 : Int) ∧ (0 : Nat) = (0 : Nat)) ∧ (0 : Nat) = (0 : Nat)) := by kernel_rfl


theorem o_done (t : List UInt8) (m base lost : Int) (tx all : List UInt8) (N i : Nat) (K M : Ix → Int) (bl : Ix → Nat) (B : Ix → Int) :
    isEnd (evTill Tryd.prog sums1 100 (behind Tryd.f4 0) 300 4 (headOf Tryd.f4 0) (envAt 109 (outE N i all)) (X4 t N K M bl B ++ bufE m base lost tx) ⟨[.s false], 130⟩) (endP [] (.v (.vb fun _ => true)) [] 200) =
    (OkL [(decide ((↑i : Int) < (↑N : Int)), false)] ∧ true = true ∧ True) := by kernel_rfl


theorem o_other (t : List UInt8) (m base lost : Int) (tx all : List UInt8) (N i : Nat) (K M : Ix → Int) (bl : Ix → Nat) (B : Ix → Int) :
    isMore (evTill Tryd.prog sums1 100 (behind Tryd.f4 0) 300 4 (headOf Tryd.f4 0) (envAt 109 (outE N i all)) (X4 t N K M bl B ++ bufE m base lost tx) ⟨[.s true, .s true, .s true, .s true, .s false, .s false, .s false, .s false, .s false, .s false, .s true, .s true, .s false, .s true, .s false], 130⟩) (moreP (headOf Tryd.f4 0) [] 109 (outE N (i + 1) all) (bufE m base lost tx) 200) =
    (OkL
    [(decide ((↑i : Int) < (↑N : Int)), true), (decide ((0 : Int) ≤ (↑i : Int) ∧ (↑i : Int) < (↑N : Int)), true),
      (((0 : Nat) + (↑i : Int).toNat).blt N, true), (((0 : Nat) + (↑i : Int).toNat).blt N, true),
      (K [(0 : Nat) + (↑i : Int).toNat] == (0 : Int), false), (K [(0 : Nat) + (↑i : Int).toNat] == (1 : Int), false),
      (K [(0 : Nat) + (↑i : Int).toNat] == (2 : Int), false), (decide (base < base), false),
      (IntKind.i64.wrap (base + (↑tx.length : Int)) != (↑all.length : Int), false),
      (decide (base > (↑all.length : Int)), false), (((0 : Nat) + tx.length).ble tx.length, true),
      (decide ((0 : Int) ≤ base ∧ base ≤ (↑all.length : Int)), true),
      (!bytesOf (fun is => (↑(tx.getD (List.headD is (0 : Nat)) (0 : UInt8)).toNat : Int)) [] (0 : Nat) tx.length ==
            List.drop base.toNat (List.take all.length all),
        false),
      (((0 : Nat) + tx.length).ble tx.length, true),
      (decide
          ((↑(bytesOf (fun is => (↑(tx.getD (List.headD is (0 : Nat)) (0 : UInt8)).toNat : Int)) [] (0 : Nat)
                    tx.length).length :
              Int) >
            m),
        false)] ∧
  headOf Tryd.f4 (0 : Nat) = headOf Tryd.f4 (0 : Nat) ∧
    ((0 : Nat) = (0 : Nat) ∧
        all = all ∧
          ((0 : Nat) = (0 : Nat) ∧ N = N) ∧
            (↑N : Int) = (↑N : Int) ∧ (↑(i + (1 : Nat)) : Int) = IntKind.i64.wrap ((↑i : Int) + (1 : Int))) ∧
      (m = m ∧ base = base ∧ lost = lost ∧ (0 : Nat) = (0 : Nat) ∧ tx.length = tx.length) ∧
        tx.length = tx.length ∧
          ∀ (i : Nat), i < tx.length → (↑(tx.getD i (0 : UInt8)).toNat : Int) = (↑(tx.getD i (0 : UInt8)).toNat : Int)) := by kernel_rfl


theorem eat_lo (t : List UInt8) (m base lost : Int) (tx all : List UInt8) (N i : Nat) (K M : Ix → Int) (bl : Ix → Nat) (B : Ix → Int) :
    isMore (evTill Tryd.prog sums1 100 (behind Tryd.f4 0) 300 4 (headOf Tryd.f4 0) (envAt 109 (outE N i all)) (X4 t N K M bl B ++ bufE m base lost tx) ⟨[.s true, .s true, .s true, .s true, .s false, .s true, .s true, .s false, .s false, .s false, .s true, .s true, .s false, .s true, .s false], 130⟩) (moreP (headOf Tryd.f4 0) [] 109 (outE N (i + 1) all) (bufE m base lost tx) 200) =
    (OkL
    [(decide ((↑i : Int) < (↑N : Int)), true), (decide ((0 : Int) ≤ (↑i : Int) ∧ (↑i : Int) < (↑N : Int)), true),
      (((0 : Nat) + (↑i : Int).toNat).blt N, true), (((0 : Nat) + (↑i : Int).toNat).blt N, true),
      (K [(0 : Nat) + (↑i : Int).toNat] == (0 : Int), false), (K [(0 : Nat) + (↑i : Int).toNat] == (1 : Int), true),
      (decide (M [(0 : Nat) + (↑i : Int).toNat] < base), true), (decide (base < base), false),
      (IntKind.i64.wrap (base + (↑tx.length : Int)) != (↑all.length : Int), false),
      (decide (base > (↑all.length : Int)), false), (((0 : Nat) + tx.length).ble tx.length, true),
      (decide ((0 : Int) ≤ base ∧ base ≤ (↑all.length : Int)), true),
      (!bytesOf (fun is => (↑(tx.getD (List.headD is (0 : Nat)) (0 : UInt8)).toNat : Int)) [] (0 : Nat) tx.length ==
            List.drop base.toNat (List.take all.length all),
        false),
      (((0 : Nat) + tx.length).ble tx.length, true),
      (decide
          ((↑(bytesOf (fun is => (↑(tx.getD (List.headD is (0 : Nat)) (0 : UInt8)).toNat : Int)) [] (0 : Nat)
                    tx.length).length :
              Int) >
            m),
        false)] ∧
  headOf Tryd.f4 (0 : Nat) = headOf Tryd.f4 (0 : Nat) ∧
    ((0 : Nat) = (0 : Nat) ∧
        all = all ∧
          ((0 : Nat) = (0 : Nat) ∧ N = N) ∧
            (↑N : Int) = (↑N : Int) ∧ (↑(i + (1 : Nat)) : Int) = IntKind.i64.wrap ((↑i : Int) + (1 : Int))) ∧
      (m = m ∧ base = base ∧ lost = lost ∧ (0 : Nat) = (0 : Nat) ∧ tx.length = tx.length) ∧
        tx.length = tx.length ∧
          ∀ (i : Nat), i < tx.length → (↑(tx.getD i (0 : UInt8)).toNat : Int) = (↑(tx.getD i (0 : UInt8)).toNat : Int)) := by kernel_rfl


theorem eat_hi (t : List UInt8) (m base lost : Int) (tx all : List UInt8) (N i : Nat) (K M : Ix → Int) (bl : Ix → Nat) (B : Ix → Int) :
    isMore (evTill Tryd.prog sums1 100 (behind Tryd.f4 0) 300 4 (headOf Tryd.f4 0) (envAt 109 (outE N i all)) (X4 t N K M bl B ++ bufE m base lost tx) ⟨[.s true, .s true, .s true, .s true, .s false, .s true, .s false, .s true, .s false, .s false, .s false, .s true, .s true, .s false, .s true, .s false], 130⟩) (moreP (headOf Tryd.f4 0) [] 109 (outE N (i + 1) all) (bufE m base lost tx) 200) =
    (OkL
    [(decide ((↑i : Int) < (↑N : Int)), true), (decide ((0 : Int) ≤ (↑i : Int) ∧ (↑i : Int) < (↑N : Int)), true),
      (((0 : Nat) + (↑i : Int).toNat).blt N, true), (((0 : Nat) + (↑i : Int).toNat).blt N, true),
      (K [(0 : Nat) + (↑i : Int).toNat] == (0 : Int), false), (K [(0 : Nat) + (↑i : Int).toNat] == (1 : Int), true),
      (decide (M [(0 : Nat) + (↑i : Int).toNat] < base), false),
      (decide (M [(0 : Nat) + (↑i : Int).toNat] > IntKind.i64.wrap (base + (↑tx.length : Int))), true),
      (decide (base < base), false), (IntKind.i64.wrap (base + (↑tx.length : Int)) != (↑all.length : Int), false),
      (decide (base > (↑all.length : Int)), false), (((0 : Nat) + tx.length).ble tx.length, true),
      (decide ((0 : Int) ≤ base ∧ base ≤ (↑all.length : Int)), true),
      (!bytesOf (fun is => (↑(tx.getD (List.headD is (0 : Nat)) (0 : UInt8)).toNat : Int)) [] (0 : Nat) tx.length ==
            List.drop base.toNat (List.take all.length all),
        false),
      (((0 : Nat) + tx.length).ble tx.length, true),
      (decide
          ((↑(bytesOf (fun is => (↑(tx.getD (List.headD is (0 : Nat)) (0 : UInt8)).toNat : Int)) [] (0 : Nat)
                    tx.length).length :
              Int) >
            m),
        false)] ∧
  headOf Tryd.f4 (0 : Nat) = headOf Tryd.f4 (0 : Nat) ∧
    ((0 : Nat) = (0 : Nat) ∧
        all = all ∧
          ((0 : Nat) = (0 : Nat) ∧ N = N) ∧
            (↑N : Int) = (↑N : Int) ∧ (↑(i + (1 : Nat)) : Int) = IntKind.i64.wrap ((↑i : Int) + (1 : Int))) ∧
      (m = m ∧ base = base ∧ lost = lost ∧ (0 : Nat) = (0 : Nat) ∧ tx.length = tx.length) ∧
        tx.length = tx.length ∧
          ∀ (i : Nat), i < tx.length → (↑(tx.getD i (0 : UInt8)).toNat : Int) = (↑(tx.getD i (0 : UInt8)).toNat : Int)) := by kernel_rfl


theorem eat_ok (t : List UInt8) (m base lost : Int) (tx all : List UInt8) (N i : Nat) (K M : Ix → Int) (bl : Ix → Nat) (B : Ix → Int) (base' : Int) (tx' : List UInt8) (d : Nat) :
    isMore (evTill Tryd.prog sums1 100 (behind Tryd.f4 0) 300 4 (headOf Tryd.f4 0) (envAt 109 (outE N i all)) (X4 t N K M bl B ++ bufE m base lost tx) ⟨[.s true, .s true, .s true, .s true, .s false, .s true, .s false, .s false, .s true, .s true, .s false, .s false, .s false, .s true, .s true, .s false, .s true, .s false], 130⟩) (moreP (headOf Tryd.f4 0) [(121, .cut 121 1 [d])] 109 (outE N (i + 1) all) (bufE m base' lost tx') 200) =
    (OkL
    [(decide ((↑i : Int) < (↑N : Int)), true), (decide ((0 : Int) ≤ (↑i : Int) ∧ (↑i : Int) < (↑N : Int)), true),
      (((0 : Nat) + (↑i : Int).toNat).blt N, true), (((0 : Nat) + (↑i : Int).toNat).blt N, true),
      (K [(0 : Nat) + (↑i : Int).toNat] == (0 : Int), false), (K [(0 : Nat) + (↑i : Int).toNat] == (1 : Int), true),
      (decide (M [(0 : Nat) + (↑i : Int).toNat] < base), false),
      (decide (M [(0 : Nat) + (↑i : Int).toNat] > IntKind.i64.wrap (base + (↑tx.length : Int))), false),
      (((0 : Nat) + tx.length).ble tx.length, true),
      (decide
          ((0 : Int) ≤ IntKind.i64.wrap (M [(0 : Nat) + (↑i : Int).toNat] - base) ∧
            IntKind.i64.wrap (M [(0 : Nat) + (↑i : Int).toNat] - base) ≤ (↑tx.length : Int)),
        true),
      (decide (IntKind.i64.wrap (base + IntKind.i64.wrap (M [(0 : Nat) + (↑i : Int).toNat] - base)) < base), false),
      (IntKind.i64.wrap
            (IntKind.i64.wrap (base + IntKind.i64.wrap (M [(0 : Nat) + (↑i : Int).toNat] - base)) +
              (↑(tx.length - (IntKind.i64.wrap (M [(0 : Nat) + (↑i : Int).toNat] - base)).toNat) : Int)) !=
          (↑all.length : Int),
        false),
      (decide
          (IntKind.i64.wrap (base + IntKind.i64.wrap (M [(0 : Nat) + (↑i : Int).toNat] - base)) > (↑all.length : Int)),
        false),
      ((sum [(IntKind.i64.wrap (M [(0 : Nat) + (↑i : Int).toNat] - base)).toNat] +
              (tx.length - (IntKind.i64.wrap (M [(0 : Nat) + (↑i : Int).toNat] - base)).toNat)).ble
          tx.length,
        true),
      (decide
          ((0 : Int) ≤ IntKind.i64.wrap (base + IntKind.i64.wrap (M [(0 : Nat) + (↑i : Int).toNat] - base)) ∧
            IntKind.i64.wrap (base + IntKind.i64.wrap (M [(0 : Nat) + (↑i : Int).toNat] - base)) ≤ (↑all.length : Int)),
        true),
      (!bytesOf (fun is => (↑(tx.getD (List.headD is (0 : Nat)) (0 : UInt8)).toNat : Int)) []
              (sum [(IntKind.i64.wrap (M [(0 : Nat) + (↑i : Int).toNat] - base)).toNat])
              (tx.length - (IntKind.i64.wrap (M [(0 : Nat) + (↑i : Int).toNat] - base)).toNat) ==
            List.drop (IntKind.i64.wrap (base + IntKind.i64.wrap (M [(0 : Nat) + (↑i : Int).toNat] - base))).toNat
              (List.take all.length all),
        false),
      ((sum [(IntKind.i64.wrap (M [(0 : Nat) + (↑i : Int).toNat] - base)).toNat] +
              (tx.length - (IntKind.i64.wrap (M [(0 : Nat) + (↑i : Int).toNat] - base)).toNat)).ble
          tx.length,
        true),
      (decide
          ((↑(bytesOf (fun is => (↑(tx.getD (List.headD is (0 : Nat)) (0 : UInt8)).toNat : Int)) []
                    (sum [(IntKind.i64.wrap (M [(0 : Nat) + (↑i : Int).toNat] - base)).toNat])
                    (tx.length - (IntKind.i64.wrap (M [(0 : Nat) + (↑i : Int).toNat] - base)).toNat)).length :
              Int) >
            m),
        false)] ∧
  headOf Tryd.f4 (0 : Nat) = headOf Tryd.f4 (0 : Nat) ∧
    ((0 : Nat) = (0 : Nat) ∧
        all = all ∧
          ((0 : Nat) = (0 : Nat) ∧ N = N) ∧
            (↑N : Int) = (↑N : Int) ∧ (↑(i + (1 : Nat)) : Int) = IntKind.i64.wrap ((↑i : Int) + (1 : Int))) ∧
      (m = m ∧
          base' = IntKind.i64.wrap (base + IntKind.i64.wrap (M [(0 : Nat) + (↑i : Int).toNat] - base)) ∧
            lost = lost ∧
              ([d] = [(IntKind.i64.wrap (M [(0 : Nat) + (↑i : Int).toNat] - base)).toNat] ∧ (0 : Nat) = (0 : Nat)) ∧
                tx'.length = tx.length - (IntKind.i64.wrap (M [(0 : Nat) + (↑i : Int).toNat] - base)).toNat) ∧
        sum [d] + tx'.length = tx.length ∧
          ∀ (i : Nat),
            i < tx'.length →
              (↑(tx'.getD i (0 : UInt8)).toNat : Int) = (↑(tx.getD (sum [d] + i) (0 : UInt8)).toNat : Int)) := by kernel_rfl


theorem rs_lo (t : List UInt8) (m base lost : Int) (tx all : List UInt8) (N i : Nat) (K M : Ix → Int) (bl : Ix → Nat) (B : Ix → Int) :
    isMore (evTill Tryd.prog sums1 100 (behind Tryd.f4 0) 300 4 (headOf Tryd.f4 0) (envAt 109 (outE N i all)) (X4 t N K M bl B ++ bufE m base lost tx) ⟨[.s true, .s true, .s true, .s true, .s false, .s false, .s true, .s false, .t, .s false, .s false, .s false, .s true, .s true, .s false, .s true, .s false], 130⟩) (moreP (headOf Tryd.f4 0) [] 109 (outE N (i + 1) all) (bufE m base lost tx) 200) =
    (OkL
    [(decide ((↑i : Int) < (↑N : Int)), true), (decide ((0 : Int) ≤ (↑i : Int) ∧ (↑i : Int) < (↑N : Int)), true),
      (((0 : Nat) + (↑i : Int).toNat).blt N, true), (((0 : Nat) + (↑i : Int).toNat).blt N, true),
      (K [(0 : Nat) + (↑i : Int).toNat] == (0 : Int), false), (K [(0 : Nat) + (↑i : Int).toNat] == (1 : Int), false),
      (K [(0 : Nat) + (↑i : Int).toNat] == (2 : Int), true),
      (decide (M [(0 : Nat) + (↑i : Int).toNat] ≥ (1 : Int)), false), (decide (base < base), false),
      (IntKind.i64.wrap (base + (↑tx.length : Int)) != (↑all.length : Int), false),
      (decide (base > (↑all.length : Int)), false), (((0 : Nat) + tx.length).ble tx.length, true),
      (decide ((0 : Int) ≤ base ∧ base ≤ (↑all.length : Int)), true),
      (!bytesOf (fun is => (↑(tx.getD (List.headD is (0 : Nat)) (0 : UInt8)).toNat : Int)) [] (0 : Nat) tx.length ==
            List.drop base.toNat (List.take all.length all),
        false),
      (((0 : Nat) + tx.length).ble tx.length, true),
      (decide
          ((↑(bytesOf (fun is => (↑(tx.getD (List.headD is (0 : Nat)) (0 : UInt8)).toNat : Int)) [] (0 : Nat)
                    tx.length).length :
              Int) >
            m),
        false)] ∧
  headOf Tryd.f4 (0 : Nat) = headOf Tryd.f4 (0 : Nat) ∧
    ((0 : Nat) = (0 : Nat) ∧
        all = all ∧
          ((0 : Nat) = (0 : Nat) ∧ N = N) ∧
            (↑N : Int) = (↑N : Int) ∧ (↑(i + (1 : Nat)) : Int) = IntKind.i64.wrap ((↑i : Int) + (1 : Int))) ∧
      (m = m ∧ base = base ∧ lost = lost ∧ (0 : Nat) = (0 : Nat) ∧ tx.length = tx.length) ∧
        tx.length = tx.length ∧
          ∀ (i : Nat), i < tx.length → (↑(tx.getD i (0 : UInt8)).toNat : Int) = (↑(tx.getD i (0 : UInt8)).toNat : Int)) := by kernel_rfl


theorem rs_hi (t : List UInt8) (m base lost : Int) (tx all : List UInt8) (N i : Nat) (K M : Ix → Int) (bl : Ix → Nat) (B : Ix → Int) :
    isMore (evTill Tryd.prog sums1 100 (behind Tryd.f4 0) 300 4 (headOf Tryd.f4 0) (envAt 109 (outE N i all)) (X4 t N K M bl B ++ bufE m base lost tx) ⟨[.s true, .s true, .s true, .s true, .s false, .s false, .s true, .s true, .s true, .s false, .s false, .s false, .s true, .s true, .s false, .s true, .s false], 130⟩) (moreP (headOf Tryd.f4 0) [] 109 (outE N (i + 1) all) (bufE m base lost tx) 200) =
    (OkL
    [(decide ((↑i : Int) < (↑N : Int)), true), (decide ((0 : Int) ≤ (↑i : Int) ∧ (↑i : Int) < (↑N : Int)), true),
      (((0 : Nat) + (↑i : Int).toNat).blt N, true), (((0 : Nat) + (↑i : Int).toNat).blt N, true),
      (K [(0 : Nat) + (↑i : Int).toNat] == (0 : Int), false), (K [(0 : Nat) + (↑i : Int).toNat] == (1 : Int), false),
      (K [(0 : Nat) + (↑i : Int).toNat] == (2 : Int), true),
      (decide (M [(0 : Nat) + (↑i : Int).toNat] ≥ (1 : Int)), true),
      (!decide (M [(0 : Nat) + (↑i : Int).toNat] ≤ (1000 : Int)), true), (decide (base < base), false),
      (IntKind.i64.wrap (base + (↑tx.length : Int)) != (↑all.length : Int), false),
      (decide (base > (↑all.length : Int)), false), (((0 : Nat) + tx.length).ble tx.length, true),
      (decide ((0 : Int) ≤ base ∧ base ≤ (↑all.length : Int)), true),
      (!bytesOf (fun is => (↑(tx.getD (List.headD is (0 : Nat)) (0 : UInt8)).toNat : Int)) [] (0 : Nat) tx.length ==
            List.drop base.toNat (List.take all.length all),
        false),
      (((0 : Nat) + tx.length).ble tx.length, true),
      (decide
          ((↑(bytesOf (fun is => (↑(tx.getD (List.headD is (0 : Nat)) (0 : UInt8)).toNat : Int)) [] (0 : Nat)
                    tx.length).length :
              Int) >
            m),
        false)] ∧
  headOf Tryd.f4 (0 : Nat) = headOf Tryd.f4 (0 : Nat) ∧
    ((0 : Nat) = (0 : Nat) ∧
        all = all ∧
          ((0 : Nat) = (0 : Nat) ∧ N = N) ∧
            (↑N : Int) = (↑N : Int) ∧ (↑(i + (1 : Nat)) : Int) = IntKind.i64.wrap ((↑i : Int) + (1 : Int))) ∧
      (m = m ∧ base = base ∧ lost = lost ∧ (0 : Nat) = (0 : Nat) ∧ tx.length = tx.length) ∧
        tx.length = tx.length ∧
          ∀ (i : Nat), i < tx.length → (↑(tx.getD i (0 : UInt8)).toNat : Int) = (↑(tx.getD i (0 : UInt8)).toNat : Int)) := by kernel_rfl


theorem rs_ok (t : List UInt8) (m base lost : Int) (tx all : List UInt8) (N i : Nat) (K M : Ix → Int) (bl : Ix → Nat) (B : Ix → Int) (m' base' lost' : Int) (tx' : List UInt8) (d : Nat) :
    isMore (evTill Tryd.prog sums1 100 (behind Tryd.f4 0) 300 4 (headOf Tryd.f4 0) (envAt 109 (outE N i all)) (X4 t N K M bl B ++ bufE m base lost tx) ⟨[.s true, .s true, .s true, .s true, .s false, .s false, .s true, .s true, .s false, .s true, .s true, .s false, .s false, .s false, .s true, .s true, .s false, .s true, .s false], 130⟩) (moreP (headOf Tryd.f4 0) [(121, .cut 121 1 [d])] 109 (outE N (i + 1) all) (bufE m' base' lost' tx') 200) =
    (OkL
    [(decide ((↑i : Int) < (↑N : Int)), true), (decide ((0 : Int) ≤ (↑i : Int) ∧ (↑i : Int) < (↑N : Int)), true),
      (((0 : Nat) + (↑i : Int).toNat).blt N, true), (((0 : Nat) + (↑i : Int).toNat).blt N, true),
      (K [(0 : Nat) + (↑i : Int).toNat] == (0 : Int), false), (K [(0 : Nat) + (↑i : Int).toNat] == (1 : Int), false),
      (K [(0 : Nat) + (↑i : Int).toNat] == (2 : Int), true),
      (decide (M [(0 : Nat) + (↑i : Int).toNat] ≥ (1 : Int)), true),
      (!decide (M [(0 : Nat) + (↑i : Int).toNat] ≤ (1000 : Int)), false), (((0 : Nat) + tx.length).ble tx.length, true),
      (decide
          (((0 : Int) ≤
              if (0 : Int) > IntKind.i64.wrap ((↑tx.length : Int) - M [(0 : Nat) + (↑i : Int).toNat]) then (0 : Int)
              else IntKind.i64.wrap ((↑tx.length : Int) - M [(0 : Nat) + (↑i : Int).toNat])) ∧
            (if (0 : Int) > IntKind.i64.wrap ((↑tx.length : Int) - M [(0 : Nat) + (↑i : Int).toNat]) then (0 : Int)
              else IntKind.i64.wrap ((↑tx.length : Int) - M [(0 : Nat) + (↑i : Int).toNat])) ≤
              (↑tx.length : Int)),
        true),
      (decide
          (IntKind.i64.wrap
              (base +
                if (0 : Int) > IntKind.i64.wrap ((↑tx.length : Int) - M [(0 : Nat) + (↑i : Int).toNat]) then (0 : Int)
                else IntKind.i64.wrap ((↑tx.length : Int) - M [(0 : Nat) + (↑i : Int).toNat])) <
            base),
        false),
      (IntKind.i64.wrap
            (IntKind.i64.wrap
                (base +
                  if (0 : Int) > IntKind.i64.wrap ((↑tx.length : Int) - M [(0 : Nat) + (↑i : Int).toNat]) then (0 : Int)
                  else IntKind.i64.wrap ((↑tx.length : Int) - M [(0 : Nat) + (↑i : Int).toNat])) +
              (↑(tx.length -
                    (if (0 : Int) > IntKind.i64.wrap ((↑tx.length : Int) - M [(0 : Nat) + (↑i : Int).toNat]) then
                        (0 : Int)
                      else IntKind.i64.wrap ((↑tx.length : Int) - M [(0 : Nat) + (↑i : Int).toNat])).toNat) :
                Int)) !=
          (↑all.length : Int),
        false),
      (decide
          (IntKind.i64.wrap
              (base +
                if (0 : Int) > IntKind.i64.wrap ((↑tx.length : Int) - M [(0 : Nat) + (↑i : Int).toNat]) then (0 : Int)
                else IntKind.i64.wrap ((↑tx.length : Int) - M [(0 : Nat) + (↑i : Int).toNat])) >
            (↑all.length : Int)),
        false),
      ((sum
                [(if (0 : Int) > IntKind.i64.wrap ((↑tx.length : Int) - M [(0 : Nat) + (↑i : Int).toNat]) then (0 : Int)
                    else IntKind.i64.wrap ((↑tx.length : Int) - M [(0 : Nat) + (↑i : Int).toNat])).toNat] +
              (tx.length -
                (if (0 : Int) > IntKind.i64.wrap ((↑tx.length : Int) - M [(0 : Nat) + (↑i : Int).toNat]) then (0 : Int)
                  else IntKind.i64.wrap ((↑tx.length : Int) - M [(0 : Nat) + (↑i : Int).toNat])).toNat)).ble
          tx.length,
        true),
      (decide
          ((0 : Int) ≤
              IntKind.i64.wrap
                (base +
                  if (0 : Int) > IntKind.i64.wrap ((↑tx.length : Int) - M [(0 : Nat) + (↑i : Int).toNat]) then (0 : Int)
                  else IntKind.i64.wrap ((↑tx.length : Int) - M [(0 : Nat) + (↑i : Int).toNat])) ∧
            IntKind.i64.wrap
                (base +
                  if (0 : Int) > IntKind.i64.wrap ((↑tx.length : Int) - M [(0 : Nat) + (↑i : Int).toNat]) then (0 : Int)
                  else IntKind.i64.wrap ((↑tx.length : Int) - M [(0 : Nat) + (↑i : Int).toNat])) ≤
              (↑all.length : Int)),
        true),
      (!bytesOf (fun is => (↑(tx.getD (List.headD is (0 : Nat)) (0 : UInt8)).toNat : Int)) []
              (sum
                [(if (0 : Int) > IntKind.i64.wrap ((↑tx.length : Int) - M [(0 : Nat) + (↑i : Int).toNat]) then (0 : Int)
                    else IntKind.i64.wrap ((↑tx.length : Int) - M [(0 : Nat) + (↑i : Int).toNat])).toNat])
              (tx.length -
                (if (0 : Int) > IntKind.i64.wrap ((↑tx.length : Int) - M [(0 : Nat) + (↑i : Int).toNat]) then (0 : Int)
                  else IntKind.i64.wrap ((↑tx.length : Int) - M [(0 : Nat) + (↑i : Int).toNat])).toNat) ==
            List.drop
              (IntKind.i64.wrap
                  (base +
                    if (0 : Int) > IntKind.i64.wrap ((↑tx.length : Int) - M [(0 : Nat) + (↑i : Int).toNat]) then
                      (0 : Int)
                    else IntKind.i64.wrap ((↑tx.length : Int) - M [(0 : Nat) + (↑i : Int).toNat]))).toNat
              (List.take all.length all),
        false),
      ((sum
                [(if (0 : Int) > IntKind.i64.wrap ((↑tx.length : Int) - M [(0 : Nat) + (↑i : Int).toNat]) then (0 : Int)
                    else IntKind.i64.wrap ((↑tx.length : Int) - M [(0 : Nat) + (↑i : Int).toNat])).toNat] +
              (tx.length -
                (if (0 : Int) > IntKind.i64.wrap ((↑tx.length : Int) - M [(0 : Nat) + (↑i : Int).toNat]) then (0 : Int)
                  else IntKind.i64.wrap ((↑tx.length : Int) - M [(0 : Nat) + (↑i : Int).toNat])).toNat)).ble
          tx.length,
        true),
      (decide
          ((↑(bytesOf (fun is => (↑(tx.getD (List.headD is (0 : Nat)) (0 : UInt8)).toNat : Int)) []
                    (sum
                      [(if (0 : Int) > IntKind.i64.wrap ((↑tx.length : Int) - M [(0 : Nat) + (↑i : Int).toNat]) then
                            (0 : Int)
                          else IntKind.i64.wrap ((↑tx.length : Int) - M [(0 : Nat) + (↑i : Int).toNat])).toNat])
                    (tx.length -
                      (if (0 : Int) > IntKind.i64.wrap ((↑tx.length : Int) - M [(0 : Nat) + (↑i : Int).toNat]) then
                          (0 : Int)
                        else IntKind.i64.wrap ((↑tx.length : Int) - M [(0 : Nat) + (↑i : Int).toNat])).toNat)).length :
              Int) >
            M [(0 : Nat) + (↑i : Int).toNat]),
        false)] ∧
  headOf Tryd.f4 (0 : Nat) = headOf Tryd.f4 (0 : Nat) ∧
    ((0 : Nat) = (0 : Nat) ∧
        all = all ∧
          ((0 : Nat) = (0 : Nat) ∧ N = N) ∧
            (↑N : Int) = (↑N : Int) ∧ (↑(i + (1 : Nat)) : Int) = IntKind.i64.wrap ((↑i : Int) + (1 : Int))) ∧
      (m' = M [(0 : Nat) + (↑i : Int).toNat] ∧
          base' =
              IntKind.i64.wrap
                (base +
                  if (0 : Int) > IntKind.i64.wrap ((↑tx.length : Int) - M [(0 : Nat) + (↑i : Int).toNat]) then (0 : Int)
                  else IntKind.i64.wrap ((↑tx.length : Int) - M [(0 : Nat) + (↑i : Int).toNat])) ∧
            lost' =
                IntKind.i64.wrap
                  (lost +
                    if (0 : Int) > IntKind.i64.wrap ((↑tx.length : Int) - M [(0 : Nat) + (↑i : Int).toNat]) then
                      (0 : Int)
                    else IntKind.i64.wrap ((↑tx.length : Int) - M [(0 : Nat) + (↑i : Int).toNat])) ∧
              ([d] =
                    [(if (0 : Int) > IntKind.i64.wrap ((↑tx.length : Int) - M [(0 : Nat) + (↑i : Int).toNat]) then
                          (0 : Int)
                        else IntKind.i64.wrap ((↑tx.length : Int) - M [(0 : Nat) + (↑i : Int).toNat])).toNat] ∧
                  (0 : Nat) = (0 : Nat)) ∧
                tx'.length =
                  tx.length -
                    (if (0 : Int) > IntKind.i64.wrap ((↑tx.length : Int) - M [(0 : Nat) + (↑i : Int).toNat]) then
                        (0 : Int)
                      else IntKind.i64.wrap ((↑tx.length : Int) - M [(0 : Nat) + (↑i : Int).toNat])).toNat) ∧
        sum [d] + tx'.length = tx.length ∧
          ∀ (i : Nat),
            i < tx'.length →
              (↑(tx'.getD i (0 : UInt8)).toNat : Int) = (↑(tx.getD (sum [d] + i) (0 : UInt8)).toNat : Int)) := by kernel_rfl


theorem o_in (t : List UInt8) (m base lost : Int) (tx all : List UInt8) (N i : Nat) (K M : Ix → Int) (bl : Ix → Nat) (B : Ix → Int) :
    isMore (evTill Tryd.prog sums1 100 (behind Tryd.f4 1) 300 4 (headOf Tryd.f4 0) (envAt 109 (outE N i all)) (X4 t N K M bl B ++ bufE m base lost tx) ⟨[.s true, .s true, .s true, .s true, .s true], 130⟩) (moreP (headOf Tryd.f4 1) [] 109 (inE N i 0 bl base all) (bufE m base lost tx) 200) =
    (OkL
    [(decide ((↑i : Int) < (↑N : Int)), true), (decide ((0 : Int) ≤ (↑i : Int) ∧ (↑i : Int) < (↑N : Int)), true),
      (((0 : Nat) + (↑i : Int).toNat).blt N, true), (((0 : Nat) + (↑i : Int).toNat).blt N, true),
      (K [(0 : Nat) + (↑i : Int).toNat] == (0 : Int), true)] ∧
  headOf Tryd.f4 (1 : Nat) = headOf Tryd.f4 (1 : Nat) ∧
    ((0 : Nat) = (0 : Nat) ∧
        all = all ∧
          base = base ∧
            ((0 : Nat) = (0 : Nat) ∧ N = N) ∧
              (↑N : Int) = (↑N : Int) ∧
                (↑i : Int) = (↑i : Int) ∧
                  (i = mf0 [(0 : Nat) + (↑i : Int).toNat] ∧ bl [i] = bl [(0 : Nat) + (↑i : Int).toNat]) ∧
                    (↑(bl [i]) : Int) = (↑(bl [(0 : Nat) + (↑i : Int).toNat]) : Int) ∧ (↑(0 : Nat) : Int) = (0 : Int)) ∧
      (m = m ∧ base = base ∧ lost = lost ∧ (0 : Nat) = (0 : Nat) ∧ tx.length = tx.length) ∧
        tx.length = tx.length ∧
          ∀ (i : Nat), i < tx.length → (↑(tx.getD i (0 : UInt8)).toNat : Int) = (↑(tx.getD i (0 : UInt8)).toNat : Int)) := by kernel_rfl


theorem in_next (t : List UInt8) (m base lost before : Int) (tx all : List UInt8) (N i j : Nat) (K M : Ix → Int) (bl : Ix → Nat) (B : Ix → Int) (base' lost' : Int) (tx' all' : List UInt8) (d : Nat) :
    isMore (evTill Tryd.prog sums1 100 (behind Tryd.f4 1) 300 4 (headOf Tryd.f4 1) (envAt 109 (inE N i j bl before all)) (X4 t N K M bl B ++ bufE m base lost tx) ⟨[.s true, .s true, .s true, .s true, .s true, .s true, .t, .s true, .s true, .s true, .s true, .t, .s true], 130⟩) (moreP (headOf Tryd.f4 1) [(121, .cut 131 1 [d])] 109 (inE N i (j + 1) bl before all') (bufE m base' lost' tx') 200) =
    (OkL
    [(decide ((↑j : Int) < (↑(bl [i]) : Int)), true),
      (decide ((0 : Int) ≤ (↑j : Int) ∧ (↑j : Int) < (↑(bl [i]) : Int)), true), (i.blt N, true),
      (((0 : Nat) + (↑j : Int).toNat).blt (bl [i]), true), (i.blt N, true),
      (((0 : Nat) + (↑j : Int).toNat).blt (bl [i]), true), (((0 : Nat) + tx.length).ble tx.length, true),
      (decide (((2 : Nat) * (tx.length + (1 : Nat)) + (192 : Nat)) * (1 : Nat) ≤ (281474976710656 : Nat)), true),
      (((0 : Nat) + (tx.length + (1 : Nat))).ble (tx.length + (1 : Nat)), true),
      (decide
          (((0 : Int) ≤
              if (0 : Int) > IntKind.i64.wrap ((↑(tx.length + (1 : Nat)) : Int) - m) then (0 : Int)
              else IntKind.i64.wrap ((↑(tx.length + (1 : Nat)) : Int) - m)) ∧
            (if (0 : Int) > IntKind.i64.wrap ((↑(tx.length + (1 : Nat)) : Int) - m) then (0 : Int)
              else IntKind.i64.wrap ((↑(tx.length + (1 : Nat)) : Int) - m)) ≤
              (↑(tx.length + (1 : Nat)) : Int)),
        true),
      (decide
          (all.length +
              (bytesOf (fun is => B (i :: ((0 : Nat) + (↑j : Int).toNat) :: List.tail is)) [] (0 : Nat)
                  (1 : Nat)).length ≤
            (9223372036854775807 : Nat)),
        true)] ∧
  headOf Tryd.f4 (1 : Nat) = headOf Tryd.f4 (1 : Nat) ∧
    ((0 : Nat) = (0 : Nat) ∧
        all' =
            all ++ bytesOf (fun is => B (i :: ((0 : Nat) + (↑j : Int).toNat) :: List.tail is)) [] (0 : Nat) (1 : Nat) ∧
          before = before ∧
            ((0 : Nat) = (0 : Nat) ∧ N = N) ∧
              (↑N : Int) = (↑N : Int) ∧
                (↑i : Int) = (↑i : Int) ∧
                  (i = i ∧ bl [i] = bl [i]) ∧
                    (↑(bl [i]) : Int) = (↑(bl [i]) : Int) ∧
                      (↑(j + (1 : Nat)) : Int) = IntKind.i64.wrap ((↑j : Int) + (1 : Int))) ∧
      (m = m ∧
          base' =
              IntKind.i64.wrap
                (base +
                  if (0 : Int) > IntKind.i64.wrap ((↑(tx.length + (1 : Nat)) : Int) - m) then (0 : Int)
                  else IntKind.i64.wrap ((↑(tx.length + (1 : Nat)) : Int) - m)) ∧
            lost' =
                IntKind.i64.wrap
                  (lost +
                    if (0 : Int) > IntKind.i64.wrap ((↑(tx.length + (1 : Nat)) : Int) - m) then (0 : Int)
                    else IntKind.i64.wrap ((↑(tx.length + (1 : Nat)) : Int) - m)) ∧
              ([d] =
                    [(if (0 : Int) > IntKind.i64.wrap ((↑(tx.length + (1 : Nat)) : Int) - m) then (0 : Int)
                        else IntKind.i64.wrap ((↑(tx.length + (1 : Nat)) : Int) - m)).toNat] ∧
                  (0 : Nat) = (0 : Nat)) ∧
                tx'.length =
                  tx.length + (1 : Nat) -
                    (if (0 : Int) > IntKind.i64.wrap ((↑(tx.length + (1 : Nat)) : Int) - m) then (0 : Int)
                      else IntKind.i64.wrap ((↑(tx.length + (1 : Nat)) : Int) - m)).toNat) ∧
        sum [d] + tx'.length = tx.length + (1 : Nat) ∧
          ∀ (i_1 : Nat),
            i_1 < tx'.length →
              (↑(tx'.getD i_1 (0 : UInt8)).toNat : Int) =
                appF tx.length (0 : Nat) (fun is => (↑(tx.getD (List.headD is (0 : Nat)) (0 : UInt8)).toNat : Int))
                  (fun js =>
                    B
                      (i ::
                        ((0 : Nat) + (↑j : Int).toNat) ::
                          List.tail
                            (match js with
                            | j :: r => (sum [] + j) :: r
                            | [] => [])))
                  [sum [d] + i_1]) := by kernel_rfl


theorem in_exit (t : List UInt8) (m base lost before : Int) (tx all : List UInt8) (N i j : Nat) (K M : Ix → Int) (bl : Ix → Nat) (B : Ix → Int) :
    isMore (evTill Tryd.prog sums1 100 (behind Tryd.f4 0) 300 4 (headOf Tryd.f4 1) (envAt 109 (inE N i j bl before all)) (X4 t N K M bl B ++ bufE m base lost tx) ⟨[.s false, .s false, .s false, .s false, .s true, .s true, .s false, .s true, .s false], 130⟩) (moreP (headOf Tryd.f4 0) [] 109 (outE N (i + 1) all) (bufE m base lost tx) 200) =
    (OkL
    [(decide ((↑j : Int) < (↑(bl [i]) : Int)), false), (decide (base < before), false),
      (IntKind.i64.wrap (base + (↑tx.length : Int)) != (↑all.length : Int), false),
      (decide (base > (↑all.length : Int)), false), (((0 : Nat) + tx.length).ble tx.length, true),
      (decide ((0 : Int) ≤ base ∧ base ≤ (↑all.length : Int)), true),
      (!bytesOf (fun is => (↑(tx.getD (List.headD is (0 : Nat)) (0 : UInt8)).toNat : Int)) [] (0 : Nat) tx.length ==
            List.drop base.toNat (List.take all.length all),
        false),
      (((0 : Nat) + tx.length).ble tx.length, true),
      (decide
          ((↑(bytesOf (fun is => (↑(tx.getD (List.headD is (0 : Nat)) (0 : UInt8)).toNat : Int)) [] (0 : Nat)
                    tx.length).length :
              Int) >
            m),
        false)] ∧
  headOf Tryd.f4 (0 : Nat) = headOf Tryd.f4 (0 : Nat) ∧
    ((0 : Nat) = (0 : Nat) ∧
        all = all ∧
          ((0 : Nat) = (0 : Nat) ∧ N = N) ∧
            (↑N : Int) = (↑N : Int) ∧ (↑(i + (1 : Nat)) : Int) = IntKind.i64.wrap ((↑i : Int) + (1 : Int))) ∧
      (m = m ∧ base = base ∧ lost = lost ∧ (0 : Nat) = (0 : Nat) ∧ tx.length = tx.length) ∧
        tx.length = tx.length ∧
          ∀ (i : Nat), i < tx.length → (↑(tx.getD i (0 : UInt8)).toNat : Int) = (↑(tx.getD i (0 : UInt8)).toNat : Int)) := by kernel_rfl


end Go.Proofs.YtdmkdmaofgjelaaDoor
