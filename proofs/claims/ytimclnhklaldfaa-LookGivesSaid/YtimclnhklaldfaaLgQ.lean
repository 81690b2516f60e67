/- A look over posted cells: how they are laid, what is asked behind it. -/
import Derived.Test.YtimclnhklaldfaaLgP
import Derived.Test.YtimclnhklaldfaaL11
import Derived.Test.YtimclnhklaldfaaOpenB
namespace Go.Proofs.Ytimclnhklaldfaa
open Go Go.RowKit
set_option linter.unusedVariables false
theorem keysAr {b n : Nat} {wv : Value} {x y x' y' : Ar} : keys [arB b wv x, arW wv n y] = keys [arB b wv x', arW wv n y'] := rfl
theorem keysLk {bl bm b n : Nat} {wv : Value} {k k' l l' : Lk} {x y x' y' : Ar} : keys [lkB bl bm k, lkM bm l, arB b wv x, arW wv n y] = keys [lkB bl bm k', lkM bm l', arB b wv x', arW wv n y'] := rfl
def lgA (xa : Ar) (sts kys : List Int) (clock : Int) : Nat → Ar
  | 0 => (xa.poke 1 clock).poke 16 sts.length
  | i + 1 => (((lgA xa sts kys clock i).poke (22 + 3 * (i : Int)) (gE sts (i : Int) % 9)).poke (22 + 3 * (i : Int) + 1) (gE kys (i : Int) % 64)).poke (22 + 3 * (i : Int) + 2) (500 + (i : Int))
section
variable {xa : Ar} {sts kys : List Int} {clock : Int}
theorem lgA_len (h : xa.w.length = 200) : ∀ i, (lgA xa sts kys clock i).w.length = 200
  | 0 => by simp only [lgA, Ar.poke_len]; exact h
  | i + 1 => by simp only [lgA, Ar.poke_len]; exact lgA_len h i
theorem lgA_cnt (h : xa.cnt 0) : ∀ i, (lgA xa sts kys clock i).cnt 0
  | 0 => Ar.cnt_poke (Ar.cnt_poke h _ _) _ _
  | i + 1 => Ar.cnt_poke (Ar.cnt_poke (Ar.cnt_poke (lgA_cnt h i) _ _) _ _) _ _
theorem lgA_word (h : xa.word) (hc : 0 ≤ clock ∧ clock ≤ 65535) (hs : sts.length ≤ 10) : ∀ i, i ≤ sts.length → (lgA xa sts kys clock i).word
  | 0, _ => Ar.word_poke (Ar.word_poke h (by omega)) (by omega)
  | i + 1, hi => Ar.word_poke (Ar.word_poke (Ar.word_poke (lgA_word h hc hs i (by omega)) (by omega)) (by omega)) (by omega)
theorem lgA_one (h : xa.w.length = 200) : ∀ i, (lgA xa sts kys clock i).peek 1 = clock
  | 0 => by
    rw [lgA, Ar.peek_poke, if_neg (by omega), Ar.peek_poke, if_pos ⟨Ar.hit_in (by omega) (by rw [h]; omega), rfl⟩]
  | i + 1 => by
    rw [lgA, Ar.peek_poke, if_neg (by omega), Ar.peek_poke, if_neg (by omega), Ar.peek_poke, if_neg (by omega)]; exact lgA_one h i
theorem lgA_n (h : xa.w.length = 200) : ∀ i, (lgA xa sts kys clock i).peek 16 = sts.length
  | 0 => by
    rw [lgA, Ar.peek_poke, if_pos ⟨Ar.hit_in (by omega) (by rw [Ar.poke_len, h]; omega), rfl⟩]
  | i + 1 => by
    rw [lgA, Ar.peek_poke, if_neg (by omega), Ar.peek_poke, if_neg (by omega), Ar.peek_poke, if_neg (by omega)]; exact lgA_n h i
theorem lgA_key (h : xa.w.length = 200) : ∀ i : Nat, i ≤ 50 → ∀ j : Int, 0 ≤ j → j < i → gE kys j % 64 = (lgA xa sts kys clock i).peek (23 + 3 * j)
  | 0, _, j, h0, h1 => by omega
  | i + 1, hi, j, h0, h1 => by
    rw [lgA, Ar.peek_poke, if_neg (by omega), Ar.peek_poke]
    by_cases hj : j = i
    · subst hj
      rw [if_pos ⟨Ar.hit_in (by omega) (by rw [Ar.poke_len, lgA_len h]; omega), by omega⟩]
    · rw [if_neg (by omega), Ar.peek_poke, if_neg (by omega)]
      exact lgA_key h i (by omega) j h0 (by omega)
/-- What is wanted of a word, cell by cell. -/
def lgT (a0 : Ar) (kys : List Int) (p q G z : Int) : Nat → Int
  | 0 => a0.peek z
  | k + 1 => if z = 22 + 3 * (k : Int) ∧ lgT a0 kys p q G z k = 1 ∧ p ≤ gE kys (k : Int) % 64 ∧ gE kys (k : Int) % 64 ≤ q then G else lgT a0 kys p q G z k
theorem lgT_eq {a0 : Ar} {p q G z i : Int} {cur : Bool} (hG : G ≠ 1) : ∀ k : Nat, (k : Int) ≤ i → lgT a0 kys p q G z k = lgW a0 (fun j => gE kys j % 64) k p q G i cur z
  | 0, _ => by
    unfold lgT lgW
    rw [if_neg]; rintro ⟨j, h0, h1, _⟩; omega
  | k + 1, hi => by
    have ih := lgT_eq (a0 := a0) (p := p) (q := q) (z := z) (i := i) (cur := cur) hG k (by omega)
    unfold lgT
    rw [ih]
    unfold lgW
    by_cases h1 : ∃ j : Int, 0 ≤ j ∧ j < (k : Nat) ∧ z = 22 + 3 * j ∧ a0.peek z = 1 ∧ p ≤ gE kys j % 64 ∧ gE kys j % 64 ≤ q ∧ (j < i ∨ j = i ∧ cur = true)
    · have h2 : ∃ j : Int, 0 ≤ j ∧ j < ((k + 1 : Nat) : Int) ∧ z = 22 + 3 * j ∧ a0.peek z = 1 ∧ p ≤ gE kys j % 64 ∧ gE kys j % 64 ≤ q ∧ (j < i ∨ j = i ∧ cur = true) := by
        obtain ⟨j, e0, e1, e2⟩ := h1
        exact ⟨j, e0, by omega, e2⟩
      simp only [if_pos h1, if_pos h2]
      split <;> rfl
    · simp only [if_neg h1]
      by_cases h3 : z = 22 + 3 * (k : Int) ∧ a0.peek z = 1 ∧ p ≤ gE kys (k : Int) % 64 ∧ gE kys (k : Int) % 64 ≤ q
      · rw [if_pos h3, if_pos]
        exact ⟨k, by omega, by omega, h3.1, h3.2.1, h3.2.2.1, h3.2.2.2, .inl (by omega)⟩
      · rw [if_neg h3, if_neg]
        rintro ⟨j, e0, e1, e2, e3, e4, e5, e6⟩
        by_cases hj : j = k
        · subst hj; exact h3 ⟨e2, e3, e4, e5⟩
        · exact h1 ⟨j, e0, by omega, e2, e3, e4, e5, e6⟩
theorem lgT_yes {a0 : Ar} {p q G z : Int} {k : Nat} (h : z = 22 + 3 * (k : Int) ∧ lgT a0 kys p q G z k = 1 ∧ p ≤ gE kys (k : Int) % 64 ∧ gE kys (k : Int) % 64 ≤ q) : lgT a0 kys p q G z (k + 1) = G := by rw [lgT, if_pos h]
theorem lgT_no {a0 : Ar} {p q G z : Int} {k : Nat} (h : ¬ (z = 22 + 3 * (k : Int) ∧ lgT a0 kys p q G z k = 1 ∧ p ≤ gE kys (k : Int) % 64 ∧ gE kys (k : Int) % 64 ≤ q)) : lgT a0 kys p q G z (k + 1) = lgT a0 kys p q G z k := by rw [lgT, if_neg h]
end
theorem lg_start {xa : Ar} {sts kys : List Int} {clock p q : Int} (hx : xa = mkA 1 12 200) (hl : sts.length ≤ 10) (hc : 0 ≤ clock ∧ clock ≤ 65535) :
    LG (lgA xa sts kys clock sts.length) (fun j => gE kys j % 64) sts.length p q clock 0 ⟨1, 12, 200, 1000, 15, p, q, 1073741824, 1, 0, -1, 0, 0, 0, []⟩ (lgA xa sts kys clock sts.length) := by
  have h1 : xa.w.length = 200 := by rw [hx]; decide +kernel
  have h2 : xa.cnt 0 := by rw [hx]; unfold Ar.cnt; decide +kernel
  have h3 : xa.word := by rw [hx]; unfold Ar.word; decide +kernel
  refine ⟨rfl, rfl, rfl, rfl, lgA_len h1 _, lgA_word h3 hc hl _ (Nat.le_refl _), lgA_cnt h2 _, (by dsimp only; omega), Nat.le_refl _, (fun e he => nomatch he), List.nodup_nil, (by dsimp only; omega), (by dsimp only; omega), (fun _ => rfl), (fun h => by simp at h), (fun h => by simp at h), fun z => ?_, (fun h => by simp at h), (fun h => by simp at h), (fun h => by simp at h), (by simp)⟩
  rw [lgW_not]
  intro j h0 h1 _
  simp; omega
theorem LG.end_ {a0 : Ar} {kys : List Int} {p q clock : Int} {m : Nat} {x : Lk} {a : Ar} {n : Nat} (h : LG a0 (fun j => gE kys j % 64) n p q clock m x a) (hx : x.line = 0) (z : Int) : a.peek z = lgT a0 kys p q (min (max clock 0) 16777212 + 3) z n := by
  rw [h.wd]
  exact (lgT_eq (by omega) n (h.l0 hx)).symm
theorem LG.fin {a0 : Ar} {K : Int → Int} {n0 p q clock : Int} {m : Nat} {x : Lk} {a : Ar} (h : LG a0 K n0 p q clock m x a) (hn : n0 ≤ 10) (hx : x.line ≠ 0) (hp : 0 ≤ n0) : (m : Int) ≤ 67 := by
  have := h.mu
  have h1 := h.line
  rw [if_neg hx] at this
  split at this
  · omega
  · have := h.l2 (by omega); omega
theorem LG.fin0 {a0 : Ar} {K : Int → Int} {n0 p q clock : Int} {m : Nat} {x : Lk} {a : Ar} (h : LG a0 K n0 p q clock m x a) (hn : n0 ≤ 10) (hp : 0 ≤ n0) : x.ml.length ≤ 1000 := by
  have := h.mlen
  have h1 := h.mu
  have h2 := h.line
  have h3 := h.i0
  split at h1
  · omega
  · split at h1
    · omega
    · omega
theorem lg_rise {ml : List (Int × Itm)} {ys : List Int} {zs : List Itm} (ho : ownK ml) (hn : (ml.map (·.1)).Nodup) (h1 : ys.Perm (ml.map (·.1))) (h2 : ys.Pairwise (· ≤ ·)) (h3 : zs = ys.map fun k => (aget ml k).getD default) (i : Nat) (hi : 1 ≤ i) (hl : i < zs.length) : (gE zs ((i : Int) - 1)).key < (gE zs (i : Int)).key := by
  have hk : ∀ k ∈ ys, ((aget ml k).getD default).key = k := fun k hk => by
    obtain ⟨v, e1, e2⟩ := aget_mem (h1.mem_iff.1 hk)
    rw [e1]; exact ho _ e2
  have hs : ys.Pairwise (· < ·) := by
    have hd : ys.Nodup := h1.nodup_iff.2 hn
    exact (h2.and hd).imp fun h => by have := h.1; have := h.2; omega
  subst h3
  rw [List.length_map] at hl
  have e : ∀ j : Nat, j < ys.length → gE (ys.map fun k => (aget ml k).getD default) (j : Int) = (aget ml ys[j]!).getD default := fun j hj => by
    simp [gE, hj]
  rw [show (i : Int) - 1 = ((i - 1 : Nat) : Int) from by omega, e _ (by omega), e _ hl]
  rw [getElem!_pos ys (i - 1) (by omega), getElem!_pos ys i hl, hk _ (List.getElem_mem _), hk _ (List.getElem_mem _)]
  exact List.pairwise_iff_getElem.1 hs _ _ (by omega) hl (by omega)
end Go.Proofs.Ytimclnhklaldfaa
