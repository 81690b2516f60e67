/- Chunks of groups: no program in sight. -/
import Derived.Test.YtejpanipdjknjaaGrpP
import Derived.Test.YtejpanipdjknjaaEngJ
import Derived.Test.YtejpanipdjknjaaG2
namespace Go.Proofs.Ytejpanipdjknjaa
open Go Go.RowKit
set_option linter.unusedVariables false
def cellP (x : Itm) : Cel := ⟨min (max x.ver 0) 16777212 + 3, x.key, x.data⟩
/-- A chunk's cells, when k items have been laid. -/
def cellsP (cap : Nat) (g : List Itm) (k : Nat) : List Cel := (g.take k).map cellP ++ List.replicate (cap - k) ⟨0, 0, 0⟩
theorem cellsP_zero (cap : Nat) (g : List Itm) : cellsP cap g 0 = List.replicate cap ⟨0, 0, 0⟩ := by simp [cellsP]
theorem cellsP_len {cap : Nat} {g : List Itm} {k : Nat} (hk : k ≤ g.length) (hc : g.length ≤ cap) : (cellsP cap g k).length = cap := by simp [cellsP]; omega
theorem cellsP_step {cap : Nat} {g : List Itm} {k : Nat} (hk : k < g.length) (hc : g.length ≤ cap) : (cellsP cap g k).set ((k : Int)).toNat (cellP (gE g (k : Int))) = cellsP cap g (k + 1) := by
  unfold cellsP
  have hl : ((g.take k).map cellP).length = k := by simp; omega
  rw [take_snoc hk, List.map_append, Int.toNat_natCast, List.set_append_right _ _ (by omega), hl, Nat.sub_self, show cap - k = (cap - (k + 1)) + 1 by omega, List.replicate_succ]
  simp
def minG (least : Int) (G : List (List Itm)) (i : Nat) : Int := if i = 0 then least else if (gE G (i : Int)).length = 0 then 0 else (gE (gE G (i : Int)) 0).key
theorem minF_eq (least : Int) (gs : List (Value × List Itm)) (i : Nat) : minF least gs i = minG least (gs.map (·.2)) i := by
  unfold minF minG
  rw [gE_map (fun x : Value × List Itm => x.2) rfl]
theorem minsF_len (least : Int) (gs : List (Value × List Itm)) : ∀ n, (minsF least gs n).length = n
  | 0 => rfl
  | n + 1 => by rw [minsF, List.length_append, minsF_len least gs n]; rfl
theorem minsF_at {least : Int} {gs : List (Value × List Itm)} : ∀ {n i : Nat}, i < n → gE (minsF least gs n) (i : Int) = minG least (gs.map (·.2)) i
  | 0, i, h => absurd h (Nat.not_lt_zero _)
  | n + 1, i, h => by
    rw [minsF]
    unfold gE
    rw [Int.toNat_natCast, List.getD_eq_getElem?_getD]
    rcases Nat.lt_or_ge i n with h1 | h1
    · rw [List.getElem?_append_left (by rw [minsF_len]; exact h1)]
      have := minsF_at (least := least) (gs := gs) h1
      unfold gE at this
      rw [Int.toNat_natCast, List.getD_eq_getElem?_getD] at this
      exact this
    · have e : i = n := by omega
      subst e
      rw [List.getElem?_append_right (by rw [minsF_len]; exact Nat.le_refl _), minsF_len, Nat.sub_self, minF_eq]; rfl
theorem minsF_eq (least : Int) {gs hs : List (Value × List Itm)} (h : gs.map (·.2) = hs.map (·.2)) : ∀ n, minsF least gs n = minsF least hs n
  | 0 => rfl
  | n + 1 => by rw [minsF, minsF, minsF_eq least h n, minF_eq, minF_eq, h]
/-- What a chunk's head says. -/
abbrev hd (x : Chk) : List Int := [x.a0, x.a1, x.a2, x.a3, x.a4, x.a5, x.a6, x.a7]
def chunkS (cap : Nat) (at_ after least : Int) (G : List (List Itm)) (i : Nat) : List Int × List Cel :=
  ([at_ + (i : Int) * (7 + 3 * (cap : Int)), minG least G i, ((gE G (i : Int)).length : Int), 2 * min (max (if i + 1 = G.length then after else at_ + (i : Int) * (7 + 3 * (cap : Int)) + (7 + 3 * (cap : Int))) 0) 1073741824, 0, 0, 0, 0], cellsP cap (gE G (i : Int)) (gE G (i : Int)).length)
def chunksF (cap : Nat) (at_ after least : Int) (G : List (List Itm)) : List (List Int × List Cel) := if ∀ g ∈ G, g.length ≤ cap then (List.range G.length).map (chunkS cap at_ after least G) else []
/-- A contract: new chunks. -/
def IsC (Eo E : TypeId) (L : List (List Int × List Cel)) : Value → Hp → Hp → Prop := fun v N H => ∃ cs : List (Chk × List Cel), cs.map (fun x => (hd x.1, x.2)) = L ∧ N = rowE chK Eo v (cs.map (·.1)) :: csg E cs ∧ H = []
theorem chunks_none {cap : Nat} {at_ after least : Int} {G : List (List Itm)} {i : Nat} (hi : i < G.length) (h : (cap : Int) < (gE G (i : Int)).length) : [] = chunksF cap at_ after least G := by
  unfold chunksF
  rw [if_neg]
  intro hall
  have := hall _ (gE_mem' (l := G) (j := (i : Int)) (by omega))
  omega
theorem chunks_all {cap : Nat} {at_ after least : Int} {G : List (List Itm)} {i : Nat} (hi : i = G.length) (h : ∀ j : Nat, j < i → (gE G (j : Int)).length ≤ cap) : (List.range i).map (chunkS cap at_ after least G) = chunksF cap at_ after least G := by
  unfold chunksF
  rw [if_pos, hi]
  intro g hg
  obtain ⟨j, hj, rfl⟩ := List.mem_iff_getElem.1 hg
  have := h j (by omega)
  simpa [gE, hj] using this
theorem range_snoc {β : Type} (f : Nat → β) (i : Nat) : (List.range (i + 1)).map f = (List.range i).map f ++ [f i] := by rw [List.range_succ, List.map_append]; rfl
theorem mul_step (i : Nat) (s : Int) : ((i + 1 : Nat) : Int) * s = (i : Int) * s + s := by rw [show ((i + 1 : Nat) : Int) = (i : Int) + 1 by omega, Int.add_mul]; omega
theorem snd_at {gs : List (Value × List Itm)} {j : Int} : gE (gs.map (·.2)) j = (gE gs j).2 := gE_map (fun x : Value × List Itm => x.2) rfl gs j
theorem row_cells {v : Value} {E : TypeId} {cap : Nat} {g : List Itm} (h : g.length ≤ cap) : Ent.row v E 3 (List.replicate cap (⟨0, 0, 0⟩ : Cel)).length (cellK.all (cellsP cap g g.length)) = rowE cellK E v (cellsP cap g g.length) := by
  rw [rowE, cellsP_len (Nat.le_refl _) h, List.length_replicate]
end Go.Proofs.Ytejpanipdjknjaa
