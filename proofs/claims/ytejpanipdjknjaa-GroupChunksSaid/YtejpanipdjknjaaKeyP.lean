/- The program's keys are the document's: no program in sight. -/
import Derived.Test.YtejpanipdjknjaaK6
namespace Go.Proofs.Ytejpanipdjknjaa
open Go Go.RowKit
set_option linter.unusedVariables false
theorem ints_unique : ∀ {s t : List Int}, s.Pairwise (· ≤ ·) → t.Pairwise (· ≤ ·) → s.Perm t → s = t
  | [], t, _, _, h => (List.Perm.nil_eq h)
  | x :: s, [], _, _, h => by have := h.length_eq; simp at this
  | x :: s, y :: t, hs, ht, h => by
    have h1 : x ≤ y := by
      rcases List.mem_cons.1 (h.mem_iff.2 (List.mem_cons_self : y ∈ y :: t)) with e | e
      · omega
      · exact (List.pairwise_cons.1 hs).1 y e
    have h2 : y ≤ x := by
      rcases List.mem_cons.1 (h.mem_iff.1 (List.mem_cons_self : x ∈ x :: s)) with e | e
      · omega
      · exact (List.pairwise_cons.1 ht).1 x e
    have e : x = y := by omega
    subst e
    rw [ints_unique (List.pairwise_cons.1 hs).2 (List.pairwise_cons.1 ht).2 (List.Perm.cons_inv h)]
theorem sortZ_keys (l : List Itm) : sortZ (l.map (·.key)) = (sortF l).map (·.key) := by
  obtain ⟨h1, h2⟩ := sortF_spec l
  refine ints_unique ?_ ?_ ?_
  · have := List.pairwise_mergeSort (le := fun (x y : Int) => decide (x ≤ y)) (by intro a b c h1 h2; simp at *; omega) (by intro a b; simp; omega) (l.map (·.key))
    exact this.imp (by intro a b h; simpa using h)
  · rw [List.pairwise_map]
    exact h2.imp (by intro a b h; unfold leI at h; omega)
  · exact (List.mergeSort_perm _ _).trans (h1.perm.symm.map _)
theorem gE_last (out : List Int) (x : Int) : gE (out ++ [x]) (((out ++ [x]).length : Int) - 1) = x := by
  have : ((((out ++ [x]).length : Nat) : Int) - 1).toNat = out.length := by simp
  unfold gE; rw [this]; simp
theorem keysF_compact (s : List Itm) : ∀ i, i ≤ s.length → keysF (s.take i) = Lib.compactUpTo (s.map (·.key)).toArray i ∧ (0 < i → (keysF (s.take i)).length ≠ 0 ∧ gE (keysF (s.take i)) (((keysF (s.take i)).length : Int) - 1) = (gE s ((i - 1 : Nat) : Int)).key)
  | 0, _ => ⟨rfl, fun h => absurd h (Nat.lt_irrefl _)⟩
  | i + 1, hi => by
    obtain ⟨h1, h2⟩ := keysF_compact s i (by omega)
    have hs := keysF_step (l := s) (i := i) (by omega)
    have hd : (s.map (·.key)).toArray[i]! = (gE s (i : Int)).key := by
      rw [getElem!_pos _ _ (by simp; omega)]
      simp [gE, show i < s.length by omega]
    rw [Lib.compactUpTo_succ, ← h1]
    have hk : Lib.keeps (s.map (·.key)).toArray i = decide ((keysF (s.take i)).length = 0 ∨ gE (keysF (s.take i)) (((keysF (s.take i)).length : Int) - 1) ≠ (gE s (i : Int)).key) := by
      unfold Lib.keeps
      rcases Nat.eq_zero_or_pos i with h0 | h0
      · subst h0; simp [keysF]
      · obtain ⟨h3, h4⟩ := h2 h0
        have hd1 : (s.map (·.key)).toArray[i - 1]! = (gE s ((i - 1 : Nat) : Int)).key := by
          rw [getElem!_pos _ _ (by simp; omega)]
          simp [gE, show i - 1 < s.length by omega]
        rw [hd, hd1, h4]
        rw [decide_eq_decide]
        constructor
        · rintro (h | h)
          · omega
          · exact .inr (Ne.symm h)
        · rintro (h | h)
          · exact absurd h h3
          · exact .inr (Ne.symm h)
    rw [hk, hd, hs]
    unfold keysS
    by_cases hc : (keysF (s.take i)).length = 0 ∨ gE (keysF (s.take i)) (((keysF (s.take i)).length : Int) - 1) ≠ (gE s (i : Int)).key
    · rw [if_pos hc, if_pos (by simpa using hc)]
      refine ⟨rfl, fun _ => ⟨by simp, ?_⟩⟩
      rw [gE_last]; simp
    · rw [if_neg hc, if_neg (by simpa using hc)]
      refine ⟨by simp, fun _ => ?_⟩
      have h3 : ¬ (keysF (s.take i)).length = 0 := fun h => hc (.inl h)
      have h4 : gE (keysF (s.take i)) (((keysF (s.take i)).length : Int) - 1) = (gE s (i : Int)).key := Classical.byContradiction fun h => hc (.inr h)
      exact ⟨h3, by rw [h4]; simp⟩
theorem keys_eq (l : List Itm) : keysP l = keysF (sortF l) := by
  have h := (keysF_compact (sortF l) (sortF l).length (Nat.le_refl _)).1
  rw [List.take_length] at h
  rw [h]
  unfold keysP Lib.compact
  rw [sortZ_keys, List.length_map]
end Go.Proofs.Ytejpanipdjknjaa
