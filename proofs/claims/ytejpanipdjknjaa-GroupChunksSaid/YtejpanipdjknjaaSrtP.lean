/- Plain laws of a stable sort of items: no program in sight. -/
import Derived.Test.YtejpanipdjknjaaK2
namespace Go.Proofs.Ytejpanipdjknjaa
open Go Go.RowKit
set_option linter.unusedVariables false

def gN (l : List Itm) (i : Nat) : Itm := l.getD i default
theorem gE_nat (l : List Itm) (i : Nat) : gE l (i : Int) = gN l i := rfl
theorem gE_toNat (l : List Itm) (j : Int) : gE l j = gN l j.toNat := rfl
def ltI (x y : Itm) : Prop := x.key < y.key ∨ (x.key = y.key ∧ x.ver < y.ver)
def leI (x y : Itm) : Prop := x.key < y.key ∨ (x.key = y.key ∧ x.ver ≤ y.ver)
theorem cmpI_lt {x y : Itm} : cmpI x y < 0 ↔ ltI x y := by
  unfold cmpI ltI
  simp only [orZ, cmpZ]
  repeat' split
  all_goals omega
theorem not_cmpI_lt {x y : Itm} : ¬ cmpI x y < 0 ↔ leI y x := by
  rw [cmpI_lt]; unfold ltI leI; omega
theorem lt_le {x y : Itm} (h : ltI x y) : leI x y := by unfold ltI leI at *; omega
theorem le_refl' (x : Itm) : leI x x := by unfold leI; omega
theorem le_trans' {x y z : Itm} (h1 : leI x y) (h2 : leI y z) : leI x z := by unfold leI at *; omega
theorem lt_le_trans {x y z : Itm} (h1 : ltI x y) (h2 : leI y z) : ltI x z := by unfold leI ltI at *; omega
theorem le_lt_trans {x y z : Itm} (h1 : leI x y) (h2 : ltI y z) : ltI x z := by unfold leI ltI at *; omega

/-- The same items of each name, in the same order. -/
def Cls (l l' : List Itm) : Prop := ∀ k v, l'.filter (fun x => decide (x.key = k ∧ x.ver = v)) = l.filter (fun x => decide (x.key = k ∧ x.ver = v))
theorem Cls.refl (l : List Itm) : Cls l l := fun _ _ => rfl
theorem Cls.trans {a b c : List Itm} (h1 : Cls a b) (h2 : Cls b c) : Cls a c := fun k v => (h2 k v).trans (h1 k v)
/-- Blocks that part by name may be exchanged. -/
theorem Cls.blocks {A B : List Itm} (p q : List Itm) (h : ∀ x ∈ A, ∀ y ∈ B, ltI y x) : Cls (p ++ A ++ B ++ q) (p ++ B ++ A ++ q) := fun k v => by
  simp only [List.filter_append]
  have : A.filter (fun x => decide (x.key = k ∧ x.ver = v)) = [] ∨ B.filter (fun x => decide (x.key = k ∧ x.ver = v)) = [] := by
    by_cases hA : A.filter (fun x => decide (x.key = k ∧ x.ver = v)) = []
    · exact .inl hA
    · refine .inr (List.filter_eq_nil_iff.2 fun y hy => ?_)
      obtain ⟨x, hx⟩ := List.exists_mem_of_ne_nil _ hA
      obtain ⟨hx1, hx2⟩ := List.mem_filter.1 hx
      have := h x hx1 y hy
      simp only [decide_eq_true_eq] at hx2 ⊢
      unfold ltI at this
      omega
  rcases this with h | h <;> rw [h] <;> simp

def Out (l l' : List Itm) (a b : Nat) : Prop := ∀ i, i < a ∨ b ≤ i → gN l' i = gN l i
theorem Out.refl (l : List Itm) (a b : Nat) : Out l l a b := fun _ _ => rfl
theorem Out.trans {l m r : List Itm} {a b : Nat} (h1 : Out l m a b) (h2 : Out m r a b) : Out l r a b := fun i h => (h2 i h).trans (h1 i h)
theorem Out.wide {l m : List Itm} {a b a' b' : Nat} (h : Out l m a b) (ha : a' ≤ a) (hb : b ≤ b') : Out l m a' b' := fun i hi => h i (by omega)
/-- Sorted from a up to b. -/
def Srt (l : List Itm) (a b : Nat) : Prop := ∀ p q, a ≤ p → p < q → q < b → leI (gN l p) (gN l q)
theorem Srt.le {l : List Itm} {a b p q : Nat} (h : Srt l a b) (h1 : a ≤ p) (h2 : p ≤ q) (h3 : q < b) : leI (gN l p) (gN l q) := by
  rcases Nat.lt_or_ge p q with h4 | h4
  · exact h p q h1 h4 h3
  · have : p = q := by omega
    subst this; exact le_refl' _
theorem Srt.part {l : List Itm} {a b a' b' : Nat} (h : Srt l a b) (ha : a ≤ a') (hb : b' ≤ b) : Srt l a' b' := fun p q h1 h2 h3 => h p q (by omega) h2 (by omega)
theorem Srt.out {l l' : List Itm} {a b c d : Nat} (h : Srt l a b) (ho : Out l l' c d) (hd : b ≤ c ∨ d ≤ a) : Srt l' a b := fun p q h1 h2 h3 => by
  rw [ho p (by omega), ho q (by omega)]; exact h p q h1 h2 h3

theorem gN_set (l : List Itm) (i j : Nat) (x : Itm) : gN (l.set i x) j = if i = j ∧ i < l.length then x else gN l j := by
  unfold gN
  simp only [List.getD_eq_getElem?_getD, List.getElem?_set]
  split
  · rename_i h; subst h
    by_cases hl : i < l.length
    · simp [hl]
    · simp [hl]
  · rename_i h; simp [h]

/-- Elements j and j - 1 are exchanged. -/
def swp (l : List Itm) (j : Nat) : List Itm := (l.set ((j : Int)).toNat (gE l ((j : Int) - 1))).set ((j : Int) - 1).toNat (gE l (j : Int))
/-- Elements k and k + 1 are exchanged. -/
def swq (l : List Itm) (k : Nat) : List Itm := (l.set ((k : Int)).toNat (gE l ((k : Int) + 1))).set ((k : Int) + 1).toNat (gE l (k : Int))
theorem pred_toNat (j : Nat) : ((j : Int) - 1).toNat = j - 1 := by omega
theorem succ_toNat (j : Nat) : ((j : Int) + 1).toNat = j + 1 := by omega
theorem swp_length (l : List Itm) (j : Nat) : (swp l j).length = l.length := by simp [swp]
theorem swq_length (l : List Itm) (j : Nat) : (swq l j).length = l.length := by simp [swq]
theorem swp_get {l : List Itm} {j : Nat} (h0 : 0 < j) (h : j < l.length) (i : Nat) : gN (swp l j) i = if i = j then gN l (j - 1) else if i = j - 1 then gN l j else gN l i := by
  unfold swp
  rw [gE_toNat, gE_nat, pred_toNat, Int.toNat_natCast, gN_set, gN_set]
  simp only [List.length_set]
  repeat' split
  all_goals first | rfl | (exfalso; omega) | (congr 1; omega)
theorem swq_eq (l : List Itm) (k : Nat) : swq l k = swp l (k + 1) := by
  unfold swp swq
  rw [gE_toNat, gE_nat, succ_toNat, Int.toNat_natCast]
  have e1 : (((k + 1 : Nat) : Int) - 1).toNat = k := by omega
  rw [gE_toNat l (((k + 1 : Nat) : Int) - 1), gE_nat, e1, Int.toNat_natCast, List.set_comm _ _ (by omega)]
theorem list_at {l : List Itm} {i : Nat} (h : i < l.length) : l = l.take i ++ gN l i :: l.drop (i + 1) := by
  conv => lhs; rw [← List.take_append_drop i l]
  rw [List.drop_eq_getElem_cons h]; simp [gN, h]
theorem swp_form {l : List Itm} {j : Nat} (h0 : 0 < j) (h : j < l.length) : l = l.take (j - 1) ++ [gN l (j - 1)] ++ [gN l j] ++ l.drop (j + 1) ∧ swp l j = l.take (j - 1) ++ [gN l j] ++ [gN l (j - 1)] ++ l.drop (j + 1) := by
  have hlen : (l.take (j - 1)).length = j - 1 := by simp; omega
  have e1 : l = l.take (j - 1) ++ [gN l (j - 1)] ++ [gN l j] ++ l.drop (j + 1) := by
    have h1 := list_at (l := l) (i := j - 1) (by omega)
    have h2 : l.drop (j - 1 + 1) = gN l j :: l.drop (j + 1) := by
      rw [show j - 1 + 1 = j from by omega, List.drop_eq_getElem_cons h]; simp [gN, h]
    rw [h2] at h1
    simpa using h1
  refine ⟨e1, ?_⟩
  unfold swp
  rw [gE_toNat, gE_nat, pred_toNat, Int.toNat_natCast]
  generalize gN l (j - 1) = x at *
  generalize gN l j = y at *
  generalize l.drop (j + 1) = q at *
  generalize l.take (j - 1) = p at *
  subst e1
  have hj : j = p.length + 1 := by omega
  subst hj
  simp
theorem swp_cls {l : List Itm} {j : Nat} (h0 : 0 < j) (h : j < l.length) (hlt : ltI (gN l j) (gN l (j - 1))) : Cls l (swp l j) := by
  obtain ⟨e1, e2⟩ := swp_form h0 h
  have := Cls.blocks (A := [gN l (j - 1)]) (B := [gN l j]) (l.take (j - 1)) (l.drop (j + 1)) (by simpa using hlt)
  rw [← e1, ← e2] at this
  exact this
theorem swp_out {l : List Itm} {j a b : Nat} (h0 : a < j) (h : j < l.length) (hb : j < b) : Out l (swp l j) a b := fun i hi => by
  rw [swp_get (by omega) h]
  rw [if_neg (by omega), if_neg (by omega)]

/-! ### Insertion -/
def InsI (l cur : List Itm) (a b i j : Nat) : Prop := a ≤ j ∧ j ≤ i ∧ cur.length = l.length ∧ Cls l cur ∧ Out l cur a b ∧ (∀ p q, a ≤ p → p < q → q ≤ i → p ≠ j → q ≠ j → leI (gN cur p) (gN cur q)) ∧ ∀ q, j < q → q ≤ i → leI (gN cur j) (gN cur q)
theorem InsI.start {l cur : List Itm} {a b i : Nat} (h1 : a ≤ i) (h2 : cur.length = l.length) (h3 : Cls l cur) (h4 : Out l cur a b) (h5 : Srt cur a i) : InsI l cur a b i i :=
  ⟨h1, Nat.le_refl _, h2, h3, h4, fun p q ha hpq hq hp hq' => h5 p q ha hpq (by omega), fun q h h' => by omega⟩
theorem InsI.step {l cur : List Itm} {a b i j : Nat} (h : InsI l cur a b i j) (hi : i < b) (hb : b ≤ l.length) (haj : a < j) (hlt : ltI (gN cur j) (gN cur (j - 1))) : InsI l (swp cur j) a b i (j - 1) := by
  obtain ⟨h1, h2, h3, h4, h5, h6, h7⟩ := h
  have hj : j < cur.length := by omega
  have g := swp_get (l := cur) (j := j) (by omega) hj
  refine ⟨by omega, by omega, by rw [swp_length, h3], h4.trans (swp_cls (by omega) hj hlt), h5.trans (swp_out haj hj (by omega)), fun p q ha hpq hq hp hq' => ?_, fun q hq hq' => ?_⟩
  · rw [g, g]
    by_cases e1 : p = j
    · subst e1
      rw [if_pos rfl, if_neg (by omega), if_neg (by omega)]
      exact h6 (p - 1) q (by omega) (by omega) hq (by omega) (by omega)
    · rw [if_neg e1, if_neg hp]
      by_cases e2 : q = j
      · subst e2; rw [if_pos rfl]; exact h6 p (q - 1) ha (by omega) (by omega) (by omega) (by omega)
      · rw [if_neg e2, if_neg hq']; exact h6 p q ha hpq hq e1 e2
  · rw [g, g, if_neg (by omega), if_pos rfl]
    by_cases e : q = j
    · subst e; rw [if_pos rfl]; exact lt_le hlt
    · rw [if_neg e, if_neg (by omega)]; exact h7 q (by omega) hq'
theorem InsI.stop {l cur : List Itm} {a b i j : Nat} (h : InsI l cur a b i j) (hs : a < j → leI (gN cur (j - 1)) (gN cur j)) : Srt cur a (i + 1) := by
  obtain ⟨h1, h2, h3, h4, h5, h6, h7⟩ := h
  intro p q hp hpq hq
  by_cases e1 : p = j
  · subst e1; exact h7 q hpq (by omega)
  · by_cases e2 : q = j
    · subst e2
      have h8 := hs (by omega)
      by_cases e3 : p = q - 1
      · subst e3; exact h8
      · exact le_trans' (h6 p (q - 1) hp (by omega) (by omega) e1 (by omega)) h8
    · exact h6 p q hp hpq (by omega) e1 e2

/-! ### Exchange of blocks -/
theorem set_len (A B : List Itm) (x y : Itm) : (A ++ y :: B).set A.length x = A ++ x :: B := by simp
theorem set2 (P1 P2 P3 : List Itm) (x y : Itm) {s t : Nat} (hs : s = P1.length) (ht : t = P1.length + (P2.length + 1)) :
    ((P1 ++ x :: P2 ++ y :: P3).set s (gN (P1 ++ x :: P2 ++ y :: P3) t)).set t (gN (P1 ++ x :: P2 ++ y :: P3) s) = P1 ++ y :: P2 ++ x :: P3 := by
  subst hs ht
  have e1 : gN (P1 ++ x :: P2 ++ y :: P3) P1.length = x := by simp [gN]
  have e2 : gN (P1 ++ x :: P2 ++ y :: P3) (P1.length + (P2.length + 1)) = y := by simp [gN]
  rw [e1, e2]
  have e3 : (P1 ++ x :: P2 ++ y :: P3).set P1.length y = P1 ++ y :: P2 ++ y :: P3 := by simp
  rw [e3]
  have e5 : P1.length + (P2.length + 1) = (P1 ++ y :: P2).length := by simp
  rw [e5, set_len]
theorem swr_step {p A B M q : List Itm} {i : Nat} (hAB : A.length = B.length) (hi : i < A.length) {cur : List Itm} (hc : cur = p ++ (B.take i ++ A.drop i) ++ M ++ (A.take i ++ B.drop i) ++ q) {s t : Nat} (hs : s = p.length + i) (ht : t = p.length + A.length + M.length + i) :
    (cur.set s (gN cur t)).set t (gN cur s) = p ++ (B.take (i + 1) ++ A.drop (i + 1)) ++ M ++ (A.take (i + 1) ++ B.drop (i + 1)) ++ q := by
  have hiB : i < B.length := by omega
  have eA : A.drop i = A[i] :: A.drop (i + 1) := List.drop_eq_getElem_cons hi
  have eB : B.drop i = B[i] :: B.drop (i + 1) := List.drop_eq_getElem_cons hiB
  have tA : A.take (i + 1) = A.take i ++ [A[i]] := List.take_succ_eq_append_getElem hi
  have tB : B.take (i + 1) = B.take i ++ [B[i]] := List.take_succ_eq_append_getElem hiB
  rw [tA, tB]
  rw [eA, eB] at hc
  have l1 : (B.take i).length = i := by simp; omega
  have l2 : (A.take i).length = i := by simp; omega
  have l3 : (A.drop (i + 1)).length = A.length - (i + 1) := by simp
  have e1 : cur = (p ++ B.take i) ++ A[i] :: (A.drop (i + 1) ++ M ++ A.take i) ++ B[i] :: (B.drop (i + 1) ++ q) := by rw [hc]; simp only [List.append_assoc, List.cons_append]
  have ls : s = (p ++ B.take i).length := by simp only [List.length_append]; omega
  have lt' : t = (p ++ B.take i).length + ((A.drop (i + 1) ++ M ++ A.take i).length + 1) := by simp only [List.length_append]; omega
  rw [e1, set2 _ _ _ _ _ ls lt']
  simp only [List.append_assoc, List.cons_append, List.nil_append]

/-! ### Merging -/
/-- x is moved up from a over elements that are less. -/
def UpI (l cur : List Itm) (a i k : Nat) : Prop := a ≤ k ∧ k < i ∧ cur.length = l.length ∧ Cls l cur ∧ Out l cur a i ∧ (∀ q, a ≤ q → q < k → gN cur q = gN l (q + 1)) ∧ gN cur k = gN l a ∧ ∀ q, k < q → gN cur q = gN l q
theorem UpI.start {l : List Itm} {a i : Nat} (h : a < i) : UpI l l a i a := ⟨Nat.le_refl _, h, rfl, Cls.refl l, Out.refl l a i, fun q h1 h2 => by omega, rfl, fun _ _ => rfl⟩
theorem UpI.step {l cur : List Itm} {a i k : Nat} (h : UpI l cur a i k) (hk : k + 1 < i) (hi : i ≤ l.length) (hlt : ∀ q, a < q → q < i → ltI (gN l q) (gN l a)) : UpI l (swq cur k) a i (k + 1) := by
  obtain ⟨h1, h2, h3, h4, h5, h6, h7, h8⟩ := h
  have g := swp_get (l := cur) (j := k + 1) (by omega) (by omega)
  rw [swq_eq]
  simp only [Nat.add_sub_cancel] at g
  refine ⟨by omega, hk, by rw [swp_length, h3], h4.trans (swp_cls (by omega) (by omega) ?_), h5.trans (swp_out (by omega) (by omega) hk), fun q hq1 hq2 => ?_, ?_, fun q hq => ?_⟩
  · simp only [Nat.add_sub_cancel]
    rw [h7, h8 (k + 1) (by omega)]; exact hlt _ (by omega) hk
  · rw [g, if_neg (by omega)]
    by_cases e : q = k
    · subst e; rw [if_pos rfl]; exact h8 _ (by omega)
    · rw [if_neg e]; exact h6 q hq1 (by omega)
  · rw [g, if_pos rfl, h7]
  · rw [g, if_neg (by omega), if_neg (by omega)]; exact h8 q (by omega)
theorem UpI.stop {l cur : List Itm} {a i b : Nat} (h : UpI l cur a i (i - 1)) (_hai : a < i) (_hib : i ≤ b) (hlt : ∀ q, a < q → q < i → ltI (gN l q) (gN l a)) (hge : ∀ q, i ≤ q → q < b → leI (gN l a) (gN l q)) (hs : Srt l (a + 1) b) : Srt cur a b := by
  obtain ⟨h1, h2, h3, h4, h5, h6, h7, h8⟩ := h
  intro p q hp hpq hq
  by_cases e1 : p < i - 1
  · rw [h6 p hp e1]
    by_cases e2 : q < i - 1
    · rw [h6 q (by omega) e2]; exact hs _ _ (by omega) (by omega) (by omega)
    · by_cases e3 : q = i - 1
      · subst e3; rw [h7]; exact lt_le (hlt _ (by omega) (by omega))
      · rw [h8 q (by omega)]; exact hs _ _ (by omega) (by omega) hq
  · by_cases e2 : p = i - 1
    · subst e2; rw [h7, h8 q (by omega)]; exact hge q (by omega) hq
    · rw [h8 p (by omega), h8 q (by omega)]; exact hs _ _ (by omega) hpq hq
/-- x is moved down from m over elements that are greater. -/
def DnI (l cur : List Itm) (m i k : Nat) : Prop := i ≤ k ∧ k ≤ m ∧ cur.length = l.length ∧ Cls l cur ∧ Out l cur i (m + 1) ∧ (∀ q, k < q → q ≤ m → gN cur q = gN l (q - 1)) ∧ gN cur k = gN l m ∧ ∀ q, q < k → gN cur q = gN l q
theorem DnI.start {l : List Itm} {m i : Nat} (h : i ≤ m) : DnI l l m i m := ⟨h, Nat.le_refl _, rfl, Cls.refl l, Out.refl l _ _, fun q h1 h2 => by omega, rfl, fun _ _ => rfl⟩
theorem DnI.step {l cur : List Itm} {m i k : Nat} (h : DnI l cur m i k) (hk : i < k) (hm : m < l.length) (hlt : ∀ q, i ≤ q → q < m → ltI (gN l m) (gN l q)) : DnI l (swp cur k) m i (k - 1) := by
  obtain ⟨h1, h2, h3, h4, h5, h6, h7, h8⟩ := h
  have g := swp_get (l := cur) (j := k) (by omega) (by omega)
  refine ⟨by omega, by omega, by rw [swp_length, h3], h4.trans (swp_cls (by omega) (by omega) ?_), h5.trans (swp_out (by omega) (by omega) (by omega)), fun q hq1 hq2 => ?_, ?_, fun q hq => ?_⟩
  · rw [h7, h8 (k - 1) (by omega)]; exact hlt _ (by omega) (by omega)
  · rw [g]
    by_cases e : q = k
    · subst e; rw [if_pos rfl]; exact h8 _ (by omega)
    · rw [if_neg e, if_neg (by omega)]; exact h6 q (by omega) hq2
  · rw [g, if_neg (by omega), if_pos rfl, h7]
  · rw [g, if_neg (by omega), if_neg (by omega)]; exact h8 q (by omega)
theorem DnI.stop {l cur : List Itm} {m i a : Nat} (h : DnI l cur m i i) (_him : i ≤ m) (_hai : a ≤ i) (hlt : ∀ q, i ≤ q → q < m → ltI (gN l m) (gN l q)) (hge : ∀ q, a ≤ q → q < i → leI (gN l q) (gN l m)) (hs : Srt l a m) : Srt cur a (m + 1) := by
  obtain ⟨h1, h2, h3, h4, h5, h6, h7, h8⟩ := h
  intro p q hp hpq hq
  by_cases e1 : p < i
  · rw [h8 p e1]
    by_cases e2 : q < i
    · rw [h8 q e2]; exact hs _ _ hp hpq (by omega)
    · by_cases e3 : q = i
      · subst e3; rw [h7]; exact hge p hp e1
      · rw [h6 q (by omega) (by omega)]; exact hs _ _ hp (by omega) (by omega)
  · by_cases e2 : p = i
    · subst e2; rw [h7, h6 q (by omega) (by omega)]; exact lt_le (hlt _ (by omega) (by omega))
    · rw [h6 p (by omega) (by omega), h6 q (by omega) (by omega)]; exact hs _ _ (by omega) (by omega) (by omega)

/-- What a merge owes. -/
def Mg (l l' : List Itm) (a b : Nat) : Prop := l'.length = l.length ∧ Cls l l' ∧ Out l l' a b ∧ Srt l' a b
theorem Mg.nil (l : List Itm) {a b : Nat} (h : Srt l a b) : Mg l l a b := ⟨rfl, Cls.refl l, Out.refl l a b, h⟩
/-- The two halves of a merge. -/
theorem seg_form {l : List Itm} {s m e : Nat} (h1 : s ≤ m) (h2 : m ≤ e) (h3 : e ≤ l.length) : l = l.take s ++ (l.drop s).take (m - s) ++ (l.drop m).take (e - m) ++ l.drop e := by
  conv => lhs; rw [← List.take_append_drop s l]
  have e1 : l.drop s = (l.drop s).take (m - s) ++ l.drop m := by
    conv => lhs; rw [← List.take_append_drop (m - s) (l.drop s)]
    rw [List.drop_drop, show s + (m - s) = m from by omega]
  have e2 : l.drop m = (l.drop m).take (e - m) ++ l.drop e := by
    conv => lhs; rw [← List.take_append_drop (e - m) (l.drop m)]
    rw [List.drop_drop, show m + (e - m) = e from by omega]
  conv => lhs; rw [e1, e2]
  simp only [List.append_assoc]
theorem gN_app (a b : List Itm) (i : Nat) : gN (a ++ b) i = if i < a.length then gN a i else gN b (i - a.length) := by
  unfold gN
  simp only [List.getD_eq_getElem?_getD, List.getElem?_append]
  split <;> rfl
theorem gN_take (a : List Itm) {i n : Nat} (h : i < n) : gN (a.take n) i = gN a i := by
  unfold gN
  simp only [List.getD_eq_getElem?_getD, List.getElem?_take, h, if_true]
theorem gN_drop (a : List Itm) (i n : Nat) : gN (a.drop n) i = gN a (n + i) := by
  unfold gN
  simp only [List.getD_eq_getElem?_getD, List.getElem?_drop]
/-- Where things lie behind a rotation. -/
theorem rot_get {l : List Itm} {s m e : Nat} (h1 : s ≤ m) (h2 : m ≤ e) (h3 : e ≤ l.length) (i : Nat) :
    gN (l.take s ++ (l.drop m).take (e - m) ++ (l.drop s).take (m - s) ++ l.drop e) i = if i < s then gN l i else if i < s + (e - m) then gN l (i + (m - s)) else if i < e then gN l (i - (e - m)) else gN l i := by
  have l1 : (l.take s).length = s := by simp; omega
  have l2 : ((l.drop m).take (e - m)).length = e - m := by simp; omega
  have l3 : ((l.drop s).take (m - s)).length = m - s := by simp; omega
  rw [gN_app, gN_app, gN_app]
  simp only [List.length_append, l1, l2, l3]
  by_cases c1 : i < s
  · rw [if_pos (by omega), if_pos (by omega), if_pos c1, if_pos c1, gN_take _ c1]
  · by_cases c2 : i < s + (e - m)
    · rw [if_pos (by omega), if_pos c2, if_neg c1, if_neg c1, if_pos c2, gN_take _ (by omega), gN_drop]; congr 1; omega
    · by_cases c3 : i < e
      · rw [if_pos (by omega), if_neg c2, if_neg c1, if_neg c2, if_pos c3, gN_take _ (by omega), gN_drop]; congr 1; omega
      · rw [if_neg (by omega), if_neg c1, if_neg c2, if_neg c3, gN_drop]; congr 1; omega

theorem Cls.perm {l l' : List Itm} (h : Cls l l') : l'.Perm l := List.perm_iff_count.2 fun x => by
  have := congrArg (List.count x) (h x.key x.ver)
  rwa [List.count_filter (by simp), List.count_filter (by simp)] at this
theorem gN_getElem {l : List Itm} {i : Nat} (h : i < l.length) : gN l i = l[i] := by simp [gN, h]
theorem take_out {l l' : List Itm} {a b : Nat} (hl : l'.length = l.length) (h : Out l l' a b) : l'.take a = l.take a := by
  refine List.ext_getElem (by simp [hl]) fun i h1 h2 => ?_
  simp only [List.length_take] at h1 h2
  have := h i (.inl (by omega))
  rw [gN_getElem (by omega), gN_getElem (by omega)] at this
  simpa using this
theorem drop_out {l l' : List Itm} {a b : Nat} (hl : l'.length = l.length) (h : Out l l' a b) : l'.drop b = l.drop b := by
  refine List.ext_getElem (by simp [hl]) fun i h1 h2 => ?_
  simp only [List.length_drop] at h1 h2
  have := h (b + i) (.inr (by omega))
  rw [gN_getElem (by omega), gN_getElem (by omega)] at this
  simpa using this
theorem seg2 (l : List Itm) {a b : Nat} (h : a ≤ b) : l = l.take a ++ (l.drop a).take (b - a) ++ l.drop b := by
  conv => lhs; rw [← List.take_append_drop a l, ← List.take_append_drop (b - a) (l.drop a), List.drop_drop, show a + (b - a) = b from by omega]
  simp only [List.append_assoc]
theorem seg_mem {l l' : List Itm} {a b : Nat} (hl : l'.length = l.length) (hc : Cls l l') (ho : Out l l' a b) (hb : b ≤ l.length) {p : Nat} (hp : a ≤ p) (hp' : p < b) : ∃ q, a ≤ q ∧ q < b ∧ gN l' p = gN l q := by
  have h1 := hc.perm
  rw [seg2 l (a := a) (b := b) (by omega), seg2 l' (a := a) (b := b) (by omega), take_out hl ho, drop_out hl ho] at h1
  rw [List.perm_append_right_iff, List.perm_append_left_iff] at h1
  have hm : gN l' p ∈ (l'.drop a).take (b - a) := by
    rw [gN_getElem (by omega)]
    refine List.mem_iff_getElem.2 ⟨p - a, by simp; omega, ?_⟩
    simp only [List.getElem_take, List.getElem_drop]
    congr 1; omega
  obtain ⟨q, hq, he⟩ := List.mem_iff_getElem.1 (h1.mem_iff.1 hm)
  simp only [List.length_take, List.length_drop] at hq
  refine ⟨a + q, by omega, by omega, ?_⟩
  rw [← he, gN_getElem (by omega)]
  simp
/-- What the search of a merge finds: start s, end e. -/
structure Cut (l : List Itm) (a m b mid s e : Nat) : Prop where
  bd : a ≤ s ∧ s ≤ m ∧ m ≤ e ∧ e ≤ b ∧ s + e = mid + m ∧ s ≤ mid
  gt : s < m → m < e → ltI (gN l (e - 1)) (gN l s)
  le : a < s → e < b → leI (gN l (s - 1)) (gN l e)
/-- The list behind the rotation. -/
def rotI (l : List Itm) (s m e : Nat) : List Itm := l.take s ++ (l.drop m).take (e - m) ++ (l.drop s).take (m - s) ++ l.drop e
theorem rotI_idle {l : List Itm} {s m e : Nat} (h1 : s ≤ m) (h2 : m ≤ e) (h3 : e ≤ l.length) (h : ¬ (s < m ∧ m < e)) : rotI l s m e = l := by
  have hf := seg_form h1 h2 h3
  unfold rotI
  rcases (by omega : s = m ∨ m = e) with h | h
  · subst h; simp only [Nat.sub_self, List.take_zero, List.append_nil] at hf ⊢; exact hf.symm
  · subst h; simp only [Nat.sub_self, List.take_zero, List.append_nil] at hf ⊢; exact hf.symm
theorem Cut.rot {l : List Itm} {a m b mid s e : Nat} (h : Cut l a m b mid s e) (hb : b ≤ l.length) (hs1 : Srt l a m) (hs2 : Srt l m b) :
    (rotI l s m e).length = l.length ∧ Cls l (rotI l s m e) ∧ Out l (rotI l s m e) a b ∧ Srt (rotI l s m e) a s ∧ Srt (rotI l s m e) s mid ∧ Srt (rotI l s m e) mid e ∧ Srt (rotI l s m e) e b ∧
    (∀ p q, a ≤ p → p < mid → mid ≤ q → q < b → leI (gN (rotI l s m e) p) (gN (rotI l s m e) q)) := by
  obtain ⟨h1, h2, h3, h4, h5, h6⟩ := h.bd
  have hg := fun i => rot_get (l := l) h2 h3 (by omega : e ≤ l.length) i
  have hf := seg_form (l := l) h2 h3 (by omega)
  have hmid : s + (e - m) = mid := by omega
  have hlow : ∀ i, a ≤ i → i < s → gN (rotI l s m e) i = gN l i := fun i _ hi => by unfold rotI; rw [hg, if_pos hi]
  have hB : ∀ i, s ≤ i → i < mid → gN (rotI l s m e) i = gN l (i + (m - s)) := fun i hi hi' => by unfold rotI; rw [hg, if_neg (by omega), if_pos (by omega)]
  have hA : ∀ i, mid ≤ i → i < e → gN (rotI l s m e) i = gN l (i - (e - m)) := fun i hi hi' => by unfold rotI; rw [hg, if_neg (by omega), if_neg (by omega), if_pos hi']
  have hhi : ∀ i, e ≤ i → gN (rotI l s m e) i = gN l i := fun i hi => by unfold rotI; rw [hg, if_neg (by omega), if_neg (by omega), if_neg (by omega)]
  have hlt : ∀ i j, s ≤ i → i < m → m ≤ j → j < e → ltI (gN l j) (gN l i) := fun i j hi hi' hj hj' =>
    le_lt_trans (hs2.le (p := j) (q := e - 1) hj (by omega) (by omega)) (lt_le_trans (h.gt (by omega) (by omega)) (hs1.le (p := s) (q := i) h1 hi hi'))
  refine ⟨?_, ?_, ?_, ?_, ?_, ?_, ?_, ?_⟩
  · unfold rotI; simp only [List.length_append, List.length_take, List.length_drop]; omega
  · have := Cls.blocks (A := (l.drop s).take (m - s)) (B := (l.drop m).take (e - m)) (l.take s) (l.drop e) (fun x hx y hy => ?_)
    · rw [← hf] at this; exact this
    · obtain ⟨i, hi, rfl⟩ := List.mem_iff_getElem.1 hx
      obtain ⟨j, hj, rfl⟩ := List.mem_iff_getElem.1 hy
      simp only [List.length_take, List.length_drop] at hi hj
      have := hlt (s + i) (m + j) (by omega) (by omega) (by omega) (by omega)
      simp only [List.getElem_take, List.getElem_drop]
      unfold gN at this
      simp only [List.getD_eq_getElem?_getD] at this
      rw [List.getElem?_eq_getElem (by omega), List.getElem?_eq_getElem (by omega)] at this
      exact this
  · intro i hi
    rcases hi with hi | hi
    · unfold rotI; rw [hg, if_pos (by omega)]
    · exact hhi i (by omega)
  · intro p q hp hpq hq
    rw [hlow p hp (by omega), hlow q (by omega) hq]; exact hs1 p q hp hpq (by omega)
  · intro p q hp hpq hq
    rw [hB p hp (by omega), hB q (by omega) hq]; exact hs2 _ _ (by omega) (by omega) (by omega)
  · intro p q hp hpq hq
    rw [hA p hp (by omega), hA q (by omega) hq]; exact hs1 _ _ (by omega) (by omega) (by omega)
  · intro p q hp hpq hq
    rw [hhi p hp, hhi q (by omega)]; exact hs2 _ _ (by omega) hpq hq
  · intro p q hp hp' hq hq'
    by_cases c1 : p < s
    · rw [hlow p hp c1]
      by_cases c2 : q < e
      · rw [hA q hq c2]; exact hs1.le hp (by omega) (by omega)
      · rw [hhi q (by omega)]
        exact le_trans' (hs1.le (q := s - 1) hp (by omega) (by omega)) (le_trans' (h.le (by omega) (by omega)) (hs2.le (p := e) (by omega) (by omega) hq'))
    · rw [hB p (by omega) hp']
      by_cases c2 : q < e
      · rw [hA q hq c2]; exact lt_le (hlt _ _ (by omega) (by omega) (by omega) (by omega))
      · rw [hhi q (by omega)]; exact hs2.le (by omega) (by omega) hq'
/-- Both halves being merged, all is. -/
theorem Cut.join {l l1 l2 : List Itm} {a m b mid s e : Nat} (h : Cut l a m b mid s e) (hb : b ≤ l.length) (hs1 : Srt l a m) (hs2 : Srt l m b) (hm1 : Mg (rotI l s m e) l1 a mid) (hm2 : Mg l1 l2 mid b) : Mg l l2 a b := by
  obtain ⟨r1, r2, r3, r4, r5, r6, r7, r8⟩ := h.rot hb hs1 hs2
  obtain ⟨h1, h2, h3, h4, h5, h6⟩ := h.bd
  obtain ⟨m1, m2, m3, m4⟩ := hm1
  obtain ⟨n1, n2, n3, n4⟩ := hm2
  refine ⟨by omega, r2.trans (m2.trans n2), r3.trans ((m3.wide (Nat.le_refl _) (by omega)).trans (n3.wide (by omega) (Nat.le_refl _))), fun p q hp hpq hq => ?_⟩
  by_cases c1 : q < mid
  · rw [n3 p (by omega), n3 q (by omega)]; exact m4 p q hp hpq c1
  · by_cases c2 : mid ≤ p
    · exact n4 p q c2 hpq hq
    · rw [n3 p (by omega)]
      obtain ⟨p', hp1, hp2, hp3⟩ := seg_mem m1 m2 m3 (by omega) (p := p) hp (by omega)
      obtain ⟨q', hq1, hq2, hq3⟩ := seg_mem n1 n2 n3 (by omega) (p := q) (by omega) hq
      rw [hp3, hq3, m3 q' (by omega)]
      exact r8 p' q' hp1 hp2 hq1 hq2
/-! ### There is but one stable sort -/
theorem sorted_unique : ∀ {s t : List Itm}, s.Pairwise leI → t.Pairwise leI → Cls s t → s = t
  | [], t, _, _, h => (List.Perm.eq_nil (Cls.perm h)).symm
  | x :: s, [], _, _, h => by have := (Cls.perm h).length_eq; simp at this
  | x :: s, y :: t, hs, ht, h => by
    have hp := Cls.perm h
    have hxy : leI x y := by
      have : y ∈ x :: s := hp.mem_iff.1 (List.mem_cons_self)
      rcases List.mem_cons.1 this with rfl | h1
      · exact le_refl' _
      · exact (List.pairwise_cons.1 hs).1 y h1
    have hyx : leI y x := by
      have : x ∈ y :: t := hp.mem_iff.2 (List.mem_cons_self)
      rcases List.mem_cons.1 this with rfl | h1
      · exact le_refl' _
      · exact (List.pairwise_cons.1 ht).1 x h1
    have hk : x.key = y.key ∧ x.ver = y.ver := by unfold leI at hxy hyx; omega
    have e : x = y := by
      have := h x.key x.ver
      rw [List.filter_cons_of_pos (by simp [hk.1, hk.2]), List.filter_cons_of_pos (by simp)] at this
      exact (List.cons.inj this).1.symm
    subst e
    have h' : Cls s t := fun k v => by
      have := h k v
      by_cases hc : x.key = k ∧ x.ver = v
      · rw [List.filter_cons_of_pos (by simpa using hc), List.filter_cons_of_pos (by simpa using hc)] at this
        exact (List.cons.inj this).2
      · rw [List.filter_cons_of_neg (by simpa using hc), List.filter_cons_of_neg (by simpa using hc)] at this
        exact this
    rw [sorted_unique (List.pairwise_cons.1 hs).2 (List.pairwise_cons.1 ht).2 h']
theorem Srt.pairwise {l : List Itm} (h : Srt l 0 l.length) : l.Pairwise leI := List.pairwise_iff_getElem.2 fun i j hi hj hij => by
  have := h i j (Nat.zero_le _) hij hj
  rwa [gN_getElem hi, gN_getElem hj] at this
theorem gtI_iff {x y : Itm} : gtI x y = true ↔ ltI y x := by
  unfold gtI ltI; simp only [Bool.or_eq_true, Bool.and_eq_true, decide_eq_true_eq]; omega
theorem gtI_not {x y : Itm} : gtI x y = false ↔ leI x y := by
  rw [← Bool.not_eq_true, gtI_iff]; unfold ltI leI; omega
/-- Where the insertion stops. -/
theorem posF_spec (out : List Itm) (x : Itm) : ∀ k, (∀ i, posF out x k ≤ i → i < k → ltI x (gN out i)) ∧ (0 < posF out x k → leI (gN out (posF out x k - 1)) x)
  | 0 => ⟨fun i _ h => by omega, fun h => by simp [posF] at h⟩
  | k + 1 => by
    unfold posF
    split
    · rename_i h
      obtain ⟨h1, h2⟩ := posF_spec out x k
      refine ⟨fun i hi hi' => ?_, h2⟩
      by_cases e : i = k
      · subst e; exact gtI_iff.1 h
      · exact h1 i hi (by omega)
    · rename_i h
      refine ⟨fun i hi hi' => by omega, fun _ => ?_⟩
      exact gtI_not.1 (show gtI (gN out k) x = false from Bool.eq_false_iff.2 h)
theorem insF_cls (out : List Itm) (x : Itm) : Cls (out ++ [x]) (insF out x) := by
  have h1 := (posF_spec out x out.length).1
  have h2 := posF_le out x out.length
  have := Cls.blocks (A := out.drop (posF out x out.length)) (B := [x]) (out.take (posF out x out.length)) [] (fun y hy z hz => by
    simp only [List.mem_singleton] at hz; subst hz
    obtain ⟨i, hi, rfl⟩ := List.mem_iff_getElem.1 hy
    simp only [List.length_drop] at hi
    have := h1 (posF out z out.length + i) (by omega) (by omega)
    rw [gN_getElem (by omega)] at this
    simpa using this)
  rw [List.take_append_drop] at this
  simpa [insF] using this
theorem insF_sorted {out : List Itm} (x : Itm) (h : out.Pairwise leI) : (insF out x).Pairwise leI := by
  have h2 := posF_le out x out.length
  obtain ⟨h1, h3⟩ := posF_spec out x out.length
  have hlow : ∀ y ∈ out.take (posF out x out.length), leI y x := fun y hy => by
    obtain ⟨i, hi, rfl⟩ := List.mem_iff_getElem.1 hy
    simp only [List.length_take] at hi
    have h4 := h3 (by omega)
    rw [gN_getElem (by omega)] at h4
    simp only [List.getElem_take]
    rcases Nat.lt_or_ge i (posF out x out.length - 1) with h5 | h5
    · exact le_trans' (List.pairwise_iff_getElem.1 h i (posF out x out.length - 1) (by omega) (by omega) h5) h4
    · have : i = posF out x out.length - 1 := by omega
      subst this; exact h4
  have hhi : ∀ y ∈ out.drop (posF out x out.length), leI x y := fun y hy => by
    obtain ⟨i, hi, rfl⟩ := List.mem_iff_getElem.1 hy
    simp only [List.length_drop] at hi
    have := h1 (posF out x out.length + i) (by omega) (by omega)
    rw [gN_getElem (by omega)] at this
    simp only [List.getElem_drop]
    exact lt_le this
  have hsplit := h
  rw [← List.take_append_drop (posF out x out.length) out] at hsplit
  obtain ⟨p1, p2, p3⟩ := List.pairwise_append.1 hsplit
  unfold insF
  refine List.pairwise_append.2 ⟨List.pairwise_append.2 ⟨p1, List.pairwise_singleton _ _, fun a ha b hb => ?_⟩, p2, fun a ha b hb => ?_⟩
  · simp only [List.mem_singleton] at hb; subst hb; exact hlow a ha
  · rcases List.mem_append.1 ha with ha | ha
    · exact p3 a ha b hb
    · simp only [List.mem_singleton] at ha; subst ha; exact hhi b hb
theorem sortF_spec (l : List Itm) : Cls l (sortF l) ∧ (sortF l).Pairwise leI := by
  have : ∀ (l o p : List Itm), Cls p o → o.Pairwise leI → Cls (p ++ l) (l.foldl insF o) ∧ (l.foldl insF o).Pairwise leI := by
    intro l
    induction l with
    | nil => intro o p h1 h2; simpa using ⟨h1, h2⟩
    | cons x l ih =>
      intro o p h1 h2
      have h3 : Cls (p ++ [x]) (insF o x) := Cls.trans (fun k v => by simp only [List.filter_append]; rw [h1 k v]) (insF_cls o x)
      have := ih (insF o x) (p ++ [x]) h3 (insF_sorted x h2)
      simpa using this
  have := this l [] [] (Cls.refl _) List.Pairwise.nil
  simpa [sortF] using this
/-- Whatever sorts stably gives the document's sort. -/
theorem sortF_of {l l' : List Itm} (h1 : Cls l l') (h2 : Srt l' 0 l'.length) : l' = sortF l := by
  obtain ⟨h3, h4⟩ := sortF_spec l
  exact (sorted_unique h4 h2.pairwise (fun k v => (h1 k v).trans (h3 k v).symm)).symm
end Go.Proofs.Ytejpanipdjknjaa
