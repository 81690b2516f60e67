/- A look over posted cells: the plain law. -/
import Derived.Test.YtimclnhklaldfaaLkP
namespace Go.Proofs.Ytimclnhklaldfaa
open Go Go.RowKit
set_option linter.unusedVariables false
theorem Ar.peek_load (a : Ar) (i z : Int) : (a.load i).peek z = a.peek z := rfl
theorem Ar.len_load (a : Ar) (i : Int) : (a.load i).w.length = a.w.length := rfl
theorem Ar.peek_poke (a : Ar) (i x z : Int) : (a.poke i x).peek z = if a.hit i = true ∧ z = i then x else a.peek z := by
  unfold Ar.poke
  by_cases h : a.hit i = true
  · rw [if_pos h]
    have hh := Ar.hit_yes h
    have hz : ∀ z, Ar.hit ⟨a.w.set i.toNat x, a.d0, a.d1, a.d2, a.d3, a.d4, a.k, a.at_, a.old, a.nw, a.ok⟩ z = a.hit z := fun z => by unfold Ar.hit; simp
    unfold Ar.peek
    rw [hz]
    by_cases hzi : z = i
    · subst hzi
      rw [if_pos h]
      simp only [h, true_and, if_true]
      unfold gE
      rw [List.getD_eq_getElem?_getD, List.getElem?_set_self (by omega)]; rfl
    · simp only [hzi, and_false, if_false]
      by_cases hz2 : a.hit z = true
      · rw [if_pos hz2, if_pos hz2]
        have := Ar.hit_yes hz2
        unfold gE
        rw [List.getD_eq_getElem?_getD, List.getD_eq_getElem?_getD, List.getElem?_set_ne (by omega)]
      · rw [if_neg hz2, if_neg hz2]
  · rw [if_neg h, if_neg (fun hc => h hc.1)]
theorem Ar.peek_acc (a : Ar) (k i : Int) (g : Int → Int) (okf : Int → Bool) (z : Int) : (a.acc k i g okf).peek z = if a.hit i = true ∧ z = i then g (a.peek i) else a.peek z := by
  unfold Ar.acc
  by_cases h : a.hit i = true
  · rw [if_pos h]
    show (a.poke i (g (gE a.w i))).peek z = _
    rw [Ar.peek_poke]
    have : a.peek i = gE a.w i := by unfold Ar.peek; rw [if_pos h]
    rw [this]
  · rw [if_neg h, if_neg (fun hc => h hc.1)]; rfl
theorem Ar.peek_swap (a : Ar) (i o n z : Int) : (a.swap i o n).peek z = if a.hit i = true ∧ z = i ∧ a.peek i = o then n else a.peek z := by
  unfold Ar.swap
  rw [Ar.peek_acc]
  by_cases h : a.hit i = true ∧ z = i
  · obtain ⟨h1, rfl⟩ := h
    rw [if_pos ⟨h1, rfl⟩]
    by_cases h2 : a.peek z = o
    · rw [if_pos h2, if_pos ⟨h1, rfl, h2⟩]
    · rw [if_neg h2, if_neg (fun hc => h2 hc.2.2)]
  · rw [if_neg h, if_neg (fun hc => h ⟨hc.1, hc.2.1⟩)]
theorem Ar.len_swap (a : Ar) (i o n : Int) : (a.swap i o n).w.length = a.w.length := Ar.acc_len _ _ _ _ _
theorem Ar.hit_in {a : Ar} {i : Int} (h0 : 0 ≤ i) (h1 : i < a.w.length) : a.hit i = true := by unfold Ar.hit; simp [h0, h1]
theorem Ar.hit_len {a b : Ar} (h : a.w.length = b.w.length) (i : Int) : a.hit i = b.hit i := by unfold Ar.hit; rw [h]
/-- Counts of accesses below a bound. -/
def Ar.cnt (m : Int) (a : Ar) : Prop := (0 ≤ a.d0 ∧ a.d0 ≤ m) ∧ (0 ≤ a.d1 ∧ a.d1 ≤ m) ∧ (0 ≤ a.d2 ∧ a.d2 ≤ m) ∧ (0 ≤ a.d3 ∧ a.d3 ≤ m) ∧ (0 ≤ a.d4 ∧ a.d4 ≤ m)
theorem Ar.cnt_few {m : Int} {a : Ar} (h : a.cnt m) (hm : m ≤ 1000000000) : a.few := by
  obtain ⟨h0, h1, h2, h3, h4⟩ := h
  exact ⟨⟨h0.1, by omega⟩, ⟨h1.1, by omega⟩, ⟨h2.1, by omega⟩, ⟨h3.1, by omega⟩, ⟨h4.1, by omega⟩⟩
theorem Ar.cnt_note {m : Int} {a : Ar} (h : a.cnt m) (k i o n : Int) (ok : Bool) : (a.note k i o n ok).cnt (m + 1) := by
  obtain ⟨h0, h1, h2, h3, h4⟩ := h
  unfold Ar.note
  refine ⟨⟨h0.1, ?_⟩, ⟨?_, ?_⟩, ⟨?_, ?_⟩, ⟨?_, ?_⟩, ⟨?_, ?_⟩⟩ <;> dsimp only <;> (try split) <;> omega
theorem Ar.cnt_poke {m : Int} {a : Ar} (h : a.cnt m) (i x : Int) : (a.poke i x).cnt m := by
  unfold Ar.poke; split <;> exact h
theorem Ar.cnt_acc {m : Int} {a : Ar} (h : a.cnt m) (k i : Int) (g : Int → Int) (okf : Int → Bool) : (a.acc k i g okf).cnt (m + 1) := by
  unfold Ar.acc; split
  · exact Ar.cnt_note (Ar.cnt_poke h _ _) _ _ _ _ _
  · exact Ar.cnt_note h _ _ _ _ _
theorem Ar.word_poke {a : Ar} (h : a.word) {i x : Int} (hx : -9223372036854775808 ≤ x ∧ x ≤ 9223372036854775807) : (a.poke i x).word := by
  unfold Ar.poke; split
  · intro z hz
    rcases List.mem_or_eq_of_mem_set hz with h2 | rfl
    · exact h z h2
    · exact hx
  · exact h
theorem Ar.word_load {a : Ar} (h : a.word) (i : Int) : (a.load i).word := h
theorem Ar.word_swap {a : Ar} (h : a.word) {i o n : Int} (hn : -9223372036854775808 ≤ n ∧ n ≤ 9223372036854775807) : (a.swap i o n).word := by
  unfold Ar.swap Ar.acc
  split
  · refine Ar.word_poke h ?_
    dsimp only
    split
    · exact hn
    · have := a.peek_bd h i
      unfold Ar.peek at this
      rw [if_pos (by assumption)] at this; exact this
  · exact h
/-- Maps whose entries tell their own key. -/
def ownK (ml : List (Int × Itm)) : Prop := ∀ e ∈ ml, e.2.key = e.1
section
variable {κ α : Type} [DecidableEq κ]
theorem aidxS : ∀ (l : List (κ × α)) (k : κ) (i : Nat), aidx l k (i + 1) = (aidx l k i).map fun p => (p.1 + 1, p.2)
  | [], _, _ => rfl
  | x :: r, k, i => by
    simp only [aidx]
    split
    · rfl
    · exact aidxS r k (i + 1)
theorem aget_cns (x : κ × α) (r : List (κ × α)) (k : κ) : aget (x :: r) k = if k = x.1 then some x.2 else aget r k := by
  unfold aget
  simp only [aidx]
  split
  · rfl
  · rw [aidxS]; cases aidx r k 0 <;> rfl
theorem aput_cns (x : κ × α) (r : List (κ × α)) (k : κ) (v : α) : aput (x :: r) k v = if k = x.1 then (k, v) :: r else x :: aput r k v := by
  unfold aput
  simp only [aidx]
  by_cases h : k = x.1
  · simp [h]
  · simp only [h, if_false, aidxS]
    cases aidx r k 0 with
    | none => simp
    | some p => simp
theorem aput_len (ml : List (κ × α)) (k : κ) (v : α) : (aput ml k v).length ≤ ml.length + 1 := by
  induction ml with
  | nil => simp [aput, aidx]
  | cons x r ih => rw [aput_cns]; split <;> simp; omega
theorem aput_mem {ml : List (κ × α)} {k : κ} {v : α} {e : κ × α} (h : e ∈ aput ml k v) : e = (k, v) ∨ e ∈ ml := by
  induction ml with
  | nil => left; simpa [aput, aidx] using h
  | cons x r ih =>
    rw [aput_cns] at h
    split at h
    · rcases List.mem_cons.1 h with h | h
      · exact .inl h
      · exact .inr (by simp [h])
    · rcases List.mem_cons.1 h with h | h
      · exact .inr (by simp [h])
      · rcases ih h with h | h
        · exact .inl h
        · exact .inr (by simp [h])
theorem aput_nd {ml : List (κ × α)} (hn : (ml.map (·.1)).Nodup) (k : κ) (v : α) : ((aput ml k v).map (·.1)).Nodup := by
  induction ml with
  | nil => simp [aput, aidx]
  | cons x r ih =>
    rw [List.map_cons, List.nodup_cons] at hn
    rw [aput_cns]
    split
    · rename_i e; subst e; rw [List.map_cons, List.nodup_cons]; exact hn
    · rename_i e
      rw [List.map_cons, List.nodup_cons]
      refine ⟨fun hm => ?_, ih hn.2⟩
      obtain ⟨y, hy, hyx⟩ := List.mem_map.1 hm
      rcases aput_mem hy with rfl | h
      · exact e hyx
      · exact hn.1 (List.mem_map.2 ⟨y, h, hyx⟩)
theorem aget_mem {ml : List (κ × α)} {k : κ} (h : k ∈ ml.map (·.1)) : ∃ v, aget ml k = some v ∧ (k, v) ∈ ml := by
  induction ml with
  | nil => simp at h
  | cons x r ih =>
    rw [aget_cns]
    by_cases e : k = x.1
    · rw [if_pos e]; subst e; exact ⟨x.2, rfl, by simp⟩
    · rw [if_neg e]
      obtain ⟨v, h1, h2⟩ := ih (by rcases List.mem_cons.1 (by simpa using h : k ∈ x.1 :: r.map (·.1)) with h | h; exact absurd h e; exact h)
      exact ⟨v, h1, by simp [h2]⟩
end
theorem ownK_put {ml : List (Int × Itm)} (h : ownK ml) {k : Int} {v : Itm} (hv : v.key = k) : ownK (aput ml k v) := fun e he => by
  rcases aput_mem he with rfl | he
  · exact hv
  · exact h e he
open Classical in
/-- The word that lies behind a look at a place. -/
noncomputable def lgW (a0 : Ar) (K : Int → Int) (n0 p q G i : Int) (cur : Bool) (z : Int) : Int :=
  if ∃ j : Int, 0 ≤ j ∧ j < n0 ∧ z = 22 + 3 * j ∧ a0.peek z = 1 ∧ p ≤ K j ∧ K j ≤ q ∧ (j < i ∨ j = i ∧ cur = true) then G else a0.peek z
structure LG (a0 : Ar) (K : Int → Int) (n0 p q clock : Int) (m : Nat) (x : Lk) (a : Ar) : Prop where
  chunk : x.chunk = 15
  cap : x.cap = 12
  lo : x.lo = p
  hi : x.hi = q
  len : a.w.length = 200
  word : a.word
  cnt : a.cnt m
  st : -9223372036854775808 ≤ x.state ∧ x.state ≤ 9223372036854775807
  mlen : x.ml.length ≤ m
  own : ownK x.ml
  nd : (x.ml.map (·.1)).Nodup
  line : 0 ≤ x.line ∧ x.line ≤ 7
  i0 : -1 ≤ x.i ∧ x.i ≤ n0
  l1 : x.line = 1 → x.i = -1
  l0 : x.line = 0 → n0 ≤ x.i
  l2 : 2 ≤ x.line → 0 ≤ x.i ∧ x.i < n0 ∧ x.n = n0
  wd : ∀ z, a.peek z = lgW a0 K n0 p q (min (max clock 0) 16777212 + 3) x.i (decide (6 ≤ x.line)) z
  l3 : x.line = 3 → x.state = a0.peek (22 + 3 * x.i)
  l4 : x.line = 4 ∨ x.line = 5 ∨ x.line = 6 → a0.peek (22 + 3 * x.i) = 1 ∧ p ≤ K x.i ∧ K x.i ≤ q
  l5 : x.line = 5 → x.g = clock
  mu : (m : Int) ≤ if x.line = 0 then 6 * n0 + 7 else if x.line = 1 then 0 else 6 * x.i + x.line - 1
section
variable {a0 : Ar} {K : Int → Int} {n0 p q clock : Int} {m : Nat} {x y : Lk} {a a' : Ar}
abbrev gG (clock : Int) : Int := min (max clock 0) 16777212 + 3
theorem lgW_not {G i : Int} {cur : Bool} {z : Int} (h : ∀ j : Int, 0 ≤ j → j < n0 → z = 22 + 3 * j → ¬ (j < i ∨ j = i ∧ cur = true)) : lgW a0 K n0 p q G i cur z = a0.peek z := by
  unfold lgW
  rw [if_neg]
  rintro ⟨j, h0, h1, h2, _, _, _, h6⟩
  exact h j h0 h1 h2 h6
theorem lgW_same {G i i' : Int} {cur cur' : Bool} {z : Int} (h : ∀ j : Int, 0 ≤ j → j < n0 → a0.peek (22 + 3 * j) = 1 → p ≤ K j → K j ≤ q → ((j < i ∨ j = i ∧ cur = true) ↔ (j < i' ∨ j = i' ∧ cur' = true))) : lgW a0 K n0 p q G i cur z = lgW a0 K n0 p q G i' cur' z := by
  unfold lgW
  have : (∃ j : Int, 0 ≤ j ∧ j < n0 ∧ z = 22 + 3 * j ∧ a0.peek z = 1 ∧ p ≤ K j ∧ K j ≤ q ∧ (j < i ∨ j = i ∧ cur = true)) ↔ (∃ j : Int, 0 ≤ j ∧ j < n0 ∧ z = 22 + 3 * j ∧ a0.peek z = 1 ∧ p ≤ K j ∧ K j ≤ q ∧ (j < i' ∨ j = i' ∧ cur' = true)) := by
    constructor
    · rintro ⟨j, h0, h1, h2, h3, h4, h5, h6⟩
      exact ⟨j, h0, h1, h2, h3, h4, h5, (h j h0 h1 (h2 ▸ h3) h4 h5).1 h6⟩
    · rintro ⟨j, h0, h1, h2, h3, h4, h5, h6⟩
      exact ⟨j, h0, h1, h2, h3, h4, h5, (h j h0 h1 (h2 ▸ h3) h4 h5).2 h6⟩
  by_cases hc : (∃ j : Int, 0 ≤ j ∧ j < n0 ∧ z = 22 + 3 * j ∧ a0.peek z = 1 ∧ p ≤ K j ∧ K j ≤ q ∧ (j < i ∨ j = i ∧ cur = true))
  · rw [if_pos hc, if_pos (this.1 hc)]
  · rw [if_neg hc, if_neg (fun h => hc (this.2 h))]
theorem lgW_to {G i i' : Int} {cur cur' : Bool} {z : Int} (h : ∀ j : Int, 0 ≤ j → j < n0 → z = 22 + 3 * j → a0.peek z = 1 → p ≤ K j → K j ≤ q → ((j < i ∨ j = i ∧ cur = true) ↔ (j < i' ∨ j = i' ∧ cur' = true))) : lgW a0 K n0 p q G i cur z = lgW a0 K n0 p q G i' cur' z := by
  unfold lgW
  have : (∃ j : Int, 0 ≤ j ∧ j < n0 ∧ z = 22 + 3 * j ∧ a0.peek z = 1 ∧ p ≤ K j ∧ K j ≤ q ∧ (j < i ∨ j = i ∧ cur = true)) ↔ (∃ j : Int, 0 ≤ j ∧ j < n0 ∧ z = 22 + 3 * j ∧ a0.peek z = 1 ∧ p ≤ K j ∧ K j ≤ q ∧ (j < i' ∨ j = i' ∧ cur' = true)) := by
    constructor
    · rintro ⟨j, h0, h1, h2, h3, h4, h5, h6⟩
      exact ⟨j, h0, h1, h2, h3, h4, h5, (h j h0 h1 h2 h3 h4 h5).1 h6⟩
    · rintro ⟨j, h0, h1, h2, h3, h4, h5, h6⟩
      exact ⟨j, h0, h1, h2, h3, h4, h5, (h j h0 h1 h2 h3 h4 h5).2 h6⟩
  by_cases hc : (∃ j : Int, 0 ≤ j ∧ j < n0 ∧ z = 22 + 3 * j ∧ a0.peek z = 1 ∧ p ≤ K j ∧ K j ≤ q ∧ (j < i ∨ j = i ∧ cur = true))
  · rw [if_pos hc, if_pos (this.1 hc)]
  · rw [if_neg hc, if_neg (fun h => hc (this.2 h))]
structure LgY (m : Nat) (x y : Lk) (a' : Ar) : Prop where
  eqs : y.chunk = x.chunk ∧ y.cap = x.cap ∧ y.lo = x.lo ∧ y.hi = x.hi ∧ y.i = x.i ∧ y.n = x.n
  st : -9223372036854775808 ≤ y.state ∧ y.state ≤ 9223372036854775807
  mlen : y.ml.length ≤ m + 1
  own : ownK y.ml
  nd : (y.ml.map (·.1)).Nodup
  len : a'.w.length = 200
  word : a'.word
  cnt : a'.cnt ((m + 1 : Nat) : Int)
theorem LG.next (h : LG a0 K n0 p q clock m x a) (hy : LgY m x y a') (h2 : 2 ≤ x.line) (hpk : ∀ z, a'.peek z = a.peek z)
    (hd : 6 ≤ x.line ∨ ¬ (a0.peek (22 + 3 * x.i) = 1 ∧ p ≤ K x.i ∧ K x.i ≤ q)) : LG a0 K n0 p q clock (m + 1) (y.next.withLine y.nextL) a' := by
  obtain ⟨e1, e2, e3, e4, e5, e6⟩ := hy.eqs
  obtain ⟨g1, g2, g3⟩ := h.l2 h2
  have hl : y.nextL = if n0 ≤ x.i + 1 then 0 else 2 := by unfold Lk.nextL; rw [e5, e6, g3]
  have hmu := h.mu
  have hln := h.line
  rw [if_neg (by omega), if_neg (by omega)] at hmu
  refine ⟨e1.trans h.chunk, e2.trans h.cap, e3.trans h.lo, e4.trans h.hi, hy.len, hy.word, hy.cnt, hy.st, hy.mlen, hy.own, hy.nd, ?_, ?_, ?_, ?_, ?_, ?_, ?_, ?_, ?_, ?_⟩
  · show 0 ≤ y.nextL ∧ y.nextL ≤ 7
    rw [hl]; split <;> omega
  · show -1 ≤ y.i + 1 ∧ y.i + 1 ≤ n0
    omega
  · show y.nextL = 1 → _
    rw [hl]; intro hc; split at hc <;> omega
  · show y.nextL = 0 → n0 ≤ y.i + 1
    rw [hl]; intro hc; split at hc <;> omega
  · show 2 ≤ y.nextL → 0 ≤ y.i + 1 ∧ y.i + 1 < n0 ∧ y.n = n0
    rw [hl]; intro hc; split at hc <;> omega
  · intro z
    show a'.peek z = lgW a0 K n0 p q _ (y.i + 1) (decide (6 ≤ y.nextL)) z
    rw [hpk, h.wd]
    refine lgW_same fun j h0 h1 h3 h4 h5 => ?_
    have hc : ¬ (6 ≤ y.nextL) := by rw [hl]; split <;> omega
    rw [e5]
    simp only [decide_eq_true_eq]
    rcases hd with hd | hd
    · omega
    · by_cases hji : j = x.i
      · subst hji; exact absurd ⟨h3, h4, h5⟩ hd
      · omega
  · show y.nextL = 3 → _
    rw [hl]; intro hc; split at hc <;> omega
  · show y.nextL = 4 ∨ y.nextL = 5 ∨ y.nextL = 6 → _
    rw [hl]; intro hc; split at hc <;> omega
  · show y.nextL = 5 → _
    rw [hl]; intro hc; split at hc <;> omega
  · show ((m + 1 : Nat) : Int) ≤ if y.nextL = 0 then _ else if y.nextL = 1 then 0 else 6 * (y.i + 1) + y.nextL - 1
    rw [hl, e5]
    split
    · rw [if_pos rfl]; omega
    · rw [if_neg (by omega), if_neg (by omega)]; omega
theorem LG.stay (h : LG a0 K n0 p q clock m x a) (hy : LgY m x y a') (h2 : 2 ≤ x.line) {l : Int} (hl : x.line < l ∧ l ≤ 7)
    (hW : ∀ z, a'.peek z = lgW a0 K n0 p q (gG clock) x.i (decide (6 ≤ l)) z) (h3 : l = 3 → y.state = a0.peek (22 + 3 * x.i))
    (h4 : l = 4 ∨ l = 5 ∨ l = 6 → a0.peek (22 + 3 * x.i) = 1 ∧ p ≤ K x.i ∧ K x.i ≤ q) (h5 : l = 5 → y.g = clock) : LG a0 K n0 p q clock (m + 1) (y.withLine l) a' := by
  obtain ⟨e1, e2, e3, e4, e5, e6⟩ := hy.eqs
  obtain ⟨g1, g2, g3⟩ := h.l2 h2
  have hmu := h.mu
  rw [if_neg (by omega), if_neg (by omega)] at hmu
  refine ⟨e1.trans h.chunk, e2.trans h.cap, e3.trans h.lo, e4.trans h.hi, hy.len, hy.word, hy.cnt, hy.st, hy.mlen, hy.own, hy.nd, ?_, ?_, ?_, ?_, ?_, ?_, ?_, ?_, ?_, ?_⟩
  · show 0 ≤ l ∧ l ≤ 7
    omega
  · show -1 ≤ y.i ∧ y.i ≤ n0
    omega
  · show l = 1 → _
    omega
  · show l = 0 → _
    omega
  · show 2 ≤ l → 0 ≤ y.i ∧ y.i < n0 ∧ y.n = n0
    omega
  · intro z
    show a'.peek z = lgW a0 K n0 p q _ y.i (decide (6 ≤ l)) z
    rw [e5]; exact hW z
  · show l = 3 → y.state = a0.peek (22 + 3 * y.i)
    rw [e5]; exact h3
  · show l = 4 ∨ l = 5 ∨ l = 6 → a0.peek (22 + 3 * y.i) = 1 ∧ p ≤ K y.i ∧ K y.i ≤ q
    rw [e5]; exact h4
  · exact h5
  · show ((m + 1 : Nat) : Int) ≤ if l = 0 then _ else if l = 1 then 0 else 6 * y.i + l - 1
    rw [if_neg (by omega), if_neg (by omega), e5]; omega
theorem LG.cell (h : LG a0 K n0 p q clock m x a) (h2 : 2 ≤ x.line) (hc : x.line < 6) : a.peek (22 + 3 * x.i) = a0.peek (22 + 3 * x.i) := by
  rw [h.wd]
  refine lgW_not fun j h0 h1 h3 => ?_
  simp; omega
theorem LG.ats (h : LG a0 K n0 p q clock m x a) : x.at_ = 22 + 3 * x.i := by unfold Lk.at_; rw [h.chunk]; omega
theorem LG.seenY (h : LG a0 K n0 p q clock m x a) (hy : LgY m x y a') (h2 : 2 ≤ x.line ∧ x.line < 7) (hpk : ∀ z, a'.peek z = a.peek z)
    (hd : 6 ≤ x.line ∨ ¬ (a0.peek (22 + 3 * x.i) = 1 ∧ p ≤ K x.i ∧ K x.i ≤ q)) : LG a0 K n0 p q clock (m + 1) (y.seen.withLine y.seenL) a' := by
  unfold Lk.seen Lk.seenL
  by_cases hp : y.past = true
  · rw [if_pos hp, if_pos hp]; exact h.next hy h2.1 hpk hd
  · rw [if_neg hp, if_neg hp]
    refine h.stay hy h2.1 ⟨h2.2, Int.le_refl _⟩ (fun z => ?_) (by omega) (by omega) (by omega)
    rw [hpk, h.wd]
    refine lgW_same fun j h0 h1 h3 h4 h5 => ?_
    simp only [decide_eq_true_eq]
    rcases hd with hd | hd
    · omega
    · by_cases hji : j = x.i
      · subst hji; exact absurd ⟨h3, h4, h5⟩ hd
      · omega
theorem LG.yLoad (h : LG a0 K n0 p q clock m x a) {i : Int} (he : y.chunk = x.chunk ∧ y.cap = x.cap ∧ y.lo = x.lo ∧ y.hi = x.hi ∧ y.i = x.i ∧ y.n = x.n) (hs : -9223372036854775808 ≤ y.state ∧ y.state ≤ 9223372036854775807) (hm : y.ml = x.ml) : LgY m x y (a.load i) :=
  ⟨he, hs, by rw [hm]; exact Nat.le_succ_of_le h.mlen, by rw [hm]; exact h.own, by rw [hm]; exact h.nd, h.len, h.word, by rw [Int.natCast_add]; exact Ar.cnt_note h.cnt _ _ _ _ _⟩
theorem LG.step (h : LG a0 K n0 p q clock m x a) (hk : ∀ j, 0 ≤ j → j < n0 → K j = a0.peek (23 + 3 * j)) (hn : 0 ≤ n0 ∧ n0 ≤ 10) (h16 : a0.peek 16 = n0) (h1c : a0.peek 1 = clock) (hx0 : x.line ≠ 0) : LG a0 K n0 p q clock (m + 1) (x.step a).1 (x.step a).2 := by
  have hln := h.line
  have hat := h.ats
  have hwd := h.word
  have hps : ∀ z, -9223372036854775808 ≤ a.peek z ∧ a.peek z ≤ 9223372036854775807 := a.peek_bd h.word
  rcases (by omega : x.line = 1 ∨ x.line = 2 ∨ x.line = 3 ∨ x.line = 4 ∨ x.line = 5 ∨ x.line = 6 ∨ x.line = 7) with h1 | h2 | h3 | h4 | h5 | h6 | h7
  · have hi := h.l1 h1
    have h16' : a.peek 16 = n0 := by rw [h.wd, lgW_not (fun j h0 h1 h3 => by omega), h16]
    rw [Lk.step1 h1, h.chunk, h.cap, show (15 : Int) + 1 = 16 from rfl, h16', show min (max n0 0) 12 = n0 from by omega]
    have hl : (x.withN n0).nextL = if n0 ≤ 0 then 0 else 2 := by show (if n0 ≤ x.i + 1 then (0 : Int) else 2) = _; rw [hi]; rfl
    have hmu := h.mu
    rw [if_neg (by omega), if_pos h1] at hmu
    refine ⟨h.chunk, h.cap, h.lo, h.hi, h.len, h.word, by rw [Int.natCast_add]; exact Ar.cnt_note h.cnt _ _ _ _ _, h.st, Nat.le_succ_of_le h.mlen, h.own, h.nd, ?_, ?_, ?_, ?_, ?_, ?_, ?_, ?_, ?_, ?_⟩
    · show 0 ≤ (x.withN n0).nextL ∧ (x.withN n0).nextL ≤ 7
      rw [hl]; split <;> omega
    · show -1 ≤ x.i + 1 ∧ x.i + 1 ≤ n0
      omega
    · show (x.withN n0).nextL = 1 → _
      rw [hl]; intro hc; split at hc <;> omega
    · show (x.withN n0).nextL = 0 → n0 ≤ x.i + 1
      rw [hl]; intro hc; split at hc <;> omega
    · show 2 ≤ (x.withN n0).nextL → 0 ≤ x.i + 1 ∧ x.i + 1 < n0 ∧ n0 = n0
      rw [hl]; intro hc; split at hc <;> omega
    · intro z
      show a.peek z = lgW a0 K n0 p q _ (x.i + 1) (decide (6 ≤ (x.withN n0).nextL)) z
      rw [h.wd]
      refine lgW_same fun j h0 h1 h3 h4 h5 => ?_
      have hc : ¬ (6 ≤ (x.withN n0).nextL) := by rw [hl]; split <;> omega
      simp only [decide_eq_true_eq]
      omega
    · show (x.withN n0).nextL = 3 → _
      rw [hl]; intro hc; split at hc <;> omega
    · show (x.withN n0).nextL = 4 ∨ (x.withN n0).nextL = 5 ∨ (x.withN n0).nextL = 6 → _
      rw [hl]; intro hc; split at hc <;> omega
    · show (x.withN n0).nextL = 5 → _
      rw [hl]; intro hc; split at hc <;> omega
    · show ((m + 1 : Nat) : Int) ≤ if (x.withN n0).nextL = 0 then _ else if (x.withN n0).nextL = 1 then 0 else 6 * (x.i + 1) + (x.withN n0).nextL - 1
      rw [hl, hi]
      split
      · rw [if_pos rfl]; omega
      · rw [if_neg (by omega), if_neg (by omega)]; omega
  · have hcl := h.cell (by omega) (by omega)
    by_cases hs : a.peek x.at_ = 1 ∨ 3 ≤ a.peek x.at_
    · rw [Lk.step2y h2 hs]
      refine h.stay (y := x.withState (a.peek x.at_)) (l := 3) (h.yLoad ⟨rfl, rfl, rfl, rfl, rfl, rfl⟩ (hps _) rfl) (by omega) (by omega) (fun z => ?_) (fun _ => ?_) (by omega) (by omega)
      · rw [Ar.peek_load, h.wd, h2]; rfl
      · show a.peek x.at_ = _
        rw [hat, hcl]
    · rw [Lk.step2n h2 (by omega)]
      refine h.next (y := x.withState (a.peek x.at_)) (h.yLoad ⟨rfl, rfl, rfl, rfl, rfl, rfl⟩ (hps _) rfl) (by omega) (fun _ => rfl) (.inr fun hc => hs (.inl ?_))
      rw [hat, hcl]; exact hc.1
  · obtain ⟨g1, g2, g3⟩ := h.l2 (by omega)
    have hst := h.l3 h3
    have hke : a.peek (x.at_ + 1) = K x.i := by rw [hat, hk x.i g1 g2, h.wd, lgW_not (fun j h0 h1 h3 => by omega)]; congr 1; omega
    rw [Lk.step3 h3, hke]
    by_cases ho : K x.i < x.lo ∨ x.hi < K x.i
    · rw [Lk.keyed_out ho]
      refine h.next (y := x.withKey (K x.i)) (h.yLoad ⟨rfl, rfl, rfl, rfl, rfl, rfl⟩ h.st rfl) (by omega) (fun _ => rfl) (.inr fun hc => ?_)
      rw [h.lo, h.hi] at ho; omega
    · by_cases h1 : x.state = 1
      · rw [Lk.keyed_post ho h1]
        rw [h.lo, h.hi] at ho
        refine h.stay (y := x.withKey (K x.i)) (l := 4) (h.yLoad ⟨rfl, rfl, rfl, rfl, rfl, rfl⟩ h.st rfl) (by omega) (by omega) (fun z => ?_) (by omega) (fun _ => ⟨hst ▸ h1, by omega, by omega⟩) (by omega)
        rw [Ar.peek_load, h.wd, h3]; rfl
      · rw [Lk.keyed_seen ho h1]
        exact h.seenY (y := x.withKey (K x.i)) (h.yLoad ⟨rfl, rfl, rfl, rfl, rfl, rfl⟩ h.st rfl) (by omega) (fun _ => rfl) (.inr fun hc => h1 (hst.trans hc.1))
  · have h1 : a.peek 1 = clock := by rw [h.wd, lgW_not (fun j h0 h1 h3 => by omega), h1c]
    rw [Lk.step4 h4]
    refine h.stay (y := x.withG (a.peek 1)) (l := 5) (h.yLoad ⟨rfl, rfl, rfl, rfl, rfl, rfl⟩ h.st rfl) (by omega) (by omega) (fun z => ?_) (by omega) (fun _ => h.l4 (.inl h4)) (fun _ => h1)
    rw [Ar.peek_load, h.wd, h4]; rfl
  · obtain ⟨g1, g2, g3⟩ := h.l2 (by omega)
    obtain ⟨p1, p2, p3⟩ := h.l4 (by omega)
    have hcl := h.cell (by omega) (by omega)
    rw [Lk.step5 h5, h.l5 h5, hat]
    refine h.stay (y := x) (l := 6) ⟨⟨rfl, rfl, rfl, rfl, rfl, rfl⟩, h.st, Nat.le_succ_of_le h.mlen, h.own, h.nd, (Ar.len_swap _ _ _ _).trans h.len, Ar.word_swap h.word (by omega), by rw [Int.natCast_add]; exact Ar.cnt_acc h.cnt _ _ _ _⟩ (by omega) (by omega) (fun z => ?_) (by omega) (fun _ => h.l4 (by omega)) (by omega)
    rw [Ar.peek_swap]
    by_cases hz : z = 22 + 3 * x.i
    · rw [if_pos ⟨Ar.hit_in (by omega) (by rw [h.len]; omega), hz, by rw [hcl, p1]⟩]
      unfold lgW
      rw [if_pos ⟨x.i, g1, g2, hz, by rw [hz]; exact p1, p2, p3, .inr ⟨rfl, rfl⟩⟩]
    · rw [if_neg (fun hc => hz hc.2.1), h.wd]
      refine lgW_to fun j h0 h1 h3 _ _ _ => ?_
      simp only [decide_eq_true_eq]
      by_cases hji : j = x.i
      · subst hji; exact absurd h3 hz
      · omega
  · obtain ⟨g1, g2, g3⟩ := h.l2 (by omega)
    obtain ⟨p1, p2, p3⟩ := h.l4 (by omega)
    have hcl : a.peek x.at_ = gG clock := by
      rw [hat, h.wd]; unfold lgW
      rw [if_pos ⟨x.i, g1, g2, rfl, p1, p2, p3, .inr ⟨rfl, by simp; omega⟩⟩]
    rw [Lk.step6y h6 (by rw [hcl]; unfold gG; omega)]
    exact h.seenY (y := x.withState (a.peek x.at_)) (h.yLoad ⟨rfl, rfl, rfl, rfl, rfl, rfl⟩ (hps _) rfl) (by omega) (fun _ => rfl) (.inl (by omega))
  · rw [Lk.step7 h7]
    refine h.next (y := x.withMl (aput x.ml x.key ⟨x.key, verW x.state, a.peek (x.at_ + 2)⟩)) ⟨⟨rfl, rfl, rfl, rfl, rfl, rfl⟩, h.st, ?_, ownK_put h.own rfl, aput_nd h.nd _ _, h.len, h.word, by rw [Int.natCast_add]; exact Ar.cnt_note h.cnt _ _ _ _ _⟩ (by omega) (fun _ => rfl) (.inl (by omega))
    have h1 := aput_len x.ml x.key ⟨x.key, verW x.state, a.peek (x.at_ + 2)⟩
    have h2 := h.mlen
    show (aput x.ml x.key _).length ≤ m + 1
    omega
end
end Go.Proofs.Ytimclnhklaldfaa
