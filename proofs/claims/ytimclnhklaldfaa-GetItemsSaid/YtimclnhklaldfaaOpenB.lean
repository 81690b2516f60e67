/- Slices of small numbers. -/
import Derived.Test.YtimclnhklaldfaaOpen
import Derived.Test.YtimclnhklaldfaaEngM
namespace Go.Proofs.Ytimclnhklaldfaa
open Go Go.RowKit Go.ChangeShapes Go.Deep
set_option linter.unusedVariables false
abbrev bK : Ek Int := ⟨fun x => [.int .u8 x], 1, fun _ => rfl, fun _ v hv => by
  simp at hv; subst hv; rfl⟩
theorem open_rdB {H : Type} {enc : TypeId × Value → H} {P : Program} {w : World} {base : Nat} {spare : Nat → Bool} {held : Bool} {t e : TypeId} {fuel : Nat} {cs : List Value} {x : DataW H × List MemPlace} (ht : P.underlying t = some (.slice e)) (he : P.underlying e = some (.int .u8)) (hc : P.cellsOf e = 1)
    (h : DataW.trod enc P w base spare held fuel t cs = some x) : ∃ v, ∃ l : List Int, cs = [v] ∧ RdIs w v 1 l.length (bK.all l) ∧ ∀ z ∈ l, (Lit.int .u8 z).wf = true := by
  have hz : ∀ l : List Int, bK.all l = l.map (Value.int .u8) := fun l => by
    induction l with
    | nil => rfl
    | cons x l ih => rw [Ek.all_cons, ih]; rfl
  rcases open_ints ht he hc h with ⟨rfl, rfl⟩ | ⟨a, len, cap, zs, rfl, hb, hl, hm, hzl, rfl, hcell, hwf⟩
  · exact ⟨_, [], rfl, ⟨none, 0, rfl, Nat.le_refl _, Nat.zero_le _, rfl, fun h => absurd h (Nat.lt_irrefl _)⟩, by simp⟩
  · have hle : len ≤ zs.length := by rw [hzl]; split <;> omega
    have hlen : (zs.take len).length = len := by rw [List.length_take]; omega
    refine ⟨_, zs.take len, rfl, ?_, fun z hz => hwf z (List.mem_of_mem_take hz)⟩
    rw [hlen, hz]
    refine rd_of_cells (by simp; omega) hl hm (by omega) fun j u hu => ?_
    have hj : j < len := by have := (List.getElem?_eq_some_iff.1 hu).1; simp at this; omega
    rw [hcell j (by omega), ← hu]
    simp [hj, List.getD, List.getElem?_eq_getElem (show j < zs.length by omega)]

end Go.Proofs.Ytimclnhklaldfaa
