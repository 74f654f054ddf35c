/- The engine: short words for printed steps. -/
import Derived.Test.YtankmgnjkcgpaaaDoorSyPl
set_option linter.unusedSimpArgs false
set_option linter.unusedVariables false
namespace Go.Sx

def hI : Nat → Nat → List Hint
  | 0, _ => []
  | k + 1, n => (match n % 4 with
    | 0 => .s false
    | 1 => .s true
    | 2 => .f
    | _ => .t) :: hI k (n / 4)

theorem rEn {P : Program} {S : List (FuncId × Summ)} (B : Base0 P S) (F d N n1 : Nat) (o : List Hint) (σ : Sg) (c : Conds) (A : Prop) {f : FuncId} {todo : List Item} {env : List SV} {H : List Ent} {n n' : Nat} {Hc : List Ent} {v : SV}
    (hc : OkL c) (a : A)
    (e : isEnd (evTill P S F d N f todo env H ⟨o, n1⟩) (endP σ v Hc n') = (OkL c ∧ A) := by kernel_rfl)
    (hw : wfState n1 env H = true := by kernel_rfl) (hk : keysIn n n' σ = true := by kernel_rfl) (hg : gtop P ≤ n := by exact gtL (by decide)) (h1 : n ≤ n1 := by decide) :
    RunsTo P f todo env (look H) n v (look Hc) n' :=
  runs_last B (Ends.of e ⟨hc, a⟩) hw hk hg h1

theorem oc2 {c0 b0 c1 b1 : Bool} {d : Conds} (h0 : c0 = b0) (h1 : c1 = b1) (t : OkL d) : OkL ((c0, b0) :: (c1, b1) :: d) := okc h0 <| okc h1 <| t
theorem oc3 {c0 b0 c1 b1 c2 b2 : Bool} {d : Conds} (h0 : c0 = b0) (h1 : c1 = b1) (h2 : c2 = b2) (t : OkL d) : OkL ((c0, b0) :: (c1, b1) :: (c2, b2) :: d) := okc h0 <| okc h1 <| okc h2 <| t
theorem oc4 {c0 b0 c1 b1 c2 b2 c3 b3 : Bool} {d : Conds} (h0 : c0 = b0) (h1 : c1 = b1) (h2 : c2 = b2) (h3 : c3 = b3) (t : OkL d) : OkL ((c0, b0) :: (c1, b1) :: (c2, b2) :: (c3, b3) :: d) := okc h0 <| okc h1 <| okc h2 <| okc h3 <| t
theorem oc5 {c0 b0 c1 b1 c2 b2 c3 b3 c4 b4 : Bool} {d : Conds} (h0 : c0 = b0) (h1 : c1 = b1) (h2 : c2 = b2) (h3 : c3 = b3) (h4 : c4 = b4) (t : OkL d) : OkL ((c0, b0) :: (c1, b1) :: (c2, b2) :: (c3, b3) :: (c4, b4) :: d) := okc h0 <| okc h1 <| okc h2 <| okc h3 <| okc h4 <| t
theorem oc6 {c0 b0 c1 b1 c2 b2 c3 b3 c4 b4 c5 b5 : Bool} {d : Conds} (h0 : c0 = b0) (h1 : c1 = b1) (h2 : c2 = b2) (h3 : c3 = b3) (h4 : c4 = b4) (h5 : c5 = b5) (t : OkL d) : OkL ((c0, b0) :: (c1, b1) :: (c2, b2) :: (c3, b3) :: (c4, b4) :: (c5, b5) :: d) := okc h0 <| okc h1 <| okc h2 <| okc h3 <| okc h4 <| okc h5 <| t
theorem oc7 {c0 b0 c1 b1 c2 b2 c3 b3 c4 b4 c5 b5 c6 b6 : Bool} {d : Conds} (h0 : c0 = b0) (h1 : c1 = b1) (h2 : c2 = b2) (h3 : c3 = b3) (h4 : c4 = b4) (h5 : c5 = b5) (h6 : c6 = b6) (t : OkL d) : OkL ((c0, b0) :: (c1, b1) :: (c2, b2) :: (c3, b3) :: (c4, b4) :: (c5, b5) :: (c6, b6) :: d) := okc h0 <| okc h1 <| okc h2 <| okc h3 <| okc h4 <| okc h5 <| okc h6 <| t
theorem oc8 {c0 b0 c1 b1 c2 b2 c3 b3 c4 b4 c5 b5 c6 b6 c7 b7 : Bool} {d : Conds} (h0 : c0 = b0) (h1 : c1 = b1) (h2 : c2 = b2) (h3 : c3 = b3) (h4 : c4 = b4) (h5 : c5 = b5) (h6 : c6 = b6) (h7 : c7 = b7) (t : OkL d) : OkL ((c0, b0) :: (c1, b1) :: (c2, b2) :: (c3, b3) :: (c4, b4) :: (c5, b5) :: (c6, b6) :: (c7, b7) :: d) := okc h0 <| okc h1 <| okc h2 <| okc h3 <| okc h4 <| okc h5 <| okc h6 <| okc h7 <| t
theorem oc9 {c0 b0 c1 b1 c2 b2 c3 b3 c4 b4 c5 b5 c6 b6 c7 b7 c8 b8 : Bool} {d : Conds} (h0 : c0 = b0) (h1 : c1 = b1) (h2 : c2 = b2) (h3 : c3 = b3) (h4 : c4 = b4) (h5 : c5 = b5) (h6 : c6 = b6) (h7 : c7 = b7) (h8 : c8 = b8) (t : OkL d) : OkL ((c0, b0) :: (c1, b1) :: (c2, b2) :: (c3, b3) :: (c4, b4) :: (c5, b5) :: (c6, b6) :: (c7, b7) :: (c8, b8) :: d) := okc h0 <| okc h1 <| okc h2 <| okc h3 <| okc h4 <| okc h5 <| okc h6 <| okc h7 <| okc h8 <| t

end Go.Sx
