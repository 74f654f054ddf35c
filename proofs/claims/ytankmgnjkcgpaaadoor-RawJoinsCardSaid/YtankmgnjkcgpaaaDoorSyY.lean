/- The engine, part 34: from a law's steps to the law's row. -/
import Derived.Test.YtankmgnjkcgpaaaDoorSyX
import Derived.ProofKit
import Derived.LaidMore
import Derived.Stop.Joined
set_option linter.unusedSimpArgs false
set_option linter.unusedVariables false
namespace Go.Sx
open Go.ChangeShapes Go.WideShapes Go.ChangeAt Go.RowKit

theorem ren_nil (ρ : Con) : ren [] ρ = ρ := by
  funext l m
  rfl

theorem RunsTo.start {P : Program} {f : FuncId} {t : List Item} {cargs args : List SV} {k : Nat} {L : HF} {n n' : Nat} {v : SV} {L' : HF} (h : RunsTo P f t (envOf cargs k) L n v L' n') (hA : fitA [] cargs args) : RunsTo P f t (envOf args k) L n v L' n' := by
  refine ⟨h.1, fun ρ w b a cs h1 h2 h3 h4 h5 h6 => h.2 ρ w b a cs h1 h2 h3 ?_ h5 h6⟩
  obtain ⟨hl, ha⟩ := fitA_ok (ρ := ρ) hA
  refine ⟨by rw [h4.1]; simp [envOf, hl], fun t s hs hj => ?_⟩
  rw [nth_eq] at hs
  unfold envOf at hs
  rw [List.getElem?_append] at hs
  split at hs
  · rename_i hlt
    obtain ⟨s', g1, g2, g3⟩ := ha t s hs hj
    rw [ren_nil] at g3
    have := h4.2 t s' (by rw [nth_eq]; unfold envOf; rw [List.getElem?_append_left (by omega)]; exact g1) g2
    rw [this, g3]
  · rename_i hlt
    refine h4.2 t s ?_ hj
    rw [nth_eq]
    unfold envOf
    rw [List.getElem?_append_right (by omega), ← hl]
    exact hs

def isIfaceO : Option TypeDesc → Bool
  | some (.interface _) => true
  | _ => false

def oneField (ts : TypeId) : Option TypeDesc → Bool
  | some (.struct fs) => match fs.toList with | [f] => if Nat.beq f.type ts then Nat.beq f.offset 0 else false | _ => false
  | _ => false

theorem errTy_of {P : Program} {nm : String} {ti tp te ts : TypeId} (h1 : isIfaceO (P.underlying ti) = true) (h2 : ∀ u, P.typeName? 3 u = some nm → u = tp) (h3 : P.underlying tp = some (.pointer te)) (h4 : oneField ts (P.underlying te) = true)
    (h5 : P.underlying ts = some .string) (h6 : P.cellsOf te = 1) (h7 : P.cellsOf ts = 1) : ErrTy P nm ti tp te ts := by
  refine ⟨?_, h2, h3, ?_, h5, h6, h7⟩
  · cases hu : P.underlying ti with
    | none => rw [hu] at h1; cases h1
    | some d => rw [hu] at h1; cases d <;> first | exact ⟨_, rfl⟩ | cases h1
  · cases hu : P.underlying te with
    | none => rw [hu] at h4; cases h4
    | some d =>
      rw [hu] at h4
      cases d with
      | struct fs =>
        simp only [oneField] at h4
        split at h4
        · rename_i f hf
          split at h4
          · rename_i hb
            refine ⟨f, ?_, Nat.eq_of_beq_eq_true hb, Nat.eq_of_beq_eq_true h4⟩
            congr 2
            apply Array.ext'
            rw [hf]
          · cases h4
        · cases h4
      | _ => cases h4

end Go.Sx
