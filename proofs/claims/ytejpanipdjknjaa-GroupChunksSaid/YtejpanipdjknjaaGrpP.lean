/- Groups: no program in sight. -/
import Derived.Test.YtejpanipdjknjaaKeepP
import Derived.Test.YtejpanipdjknjaaEngI
import Derived.Test.YtejpanipdjknjaaG1
import Derived.Test.YtejpanipdjknjaaRng
namespace Go.Proofs.Ytejpanipdjknjaa
open Go Go.RowKit
set_option linter.unusedVariables false
/-- The last group. -/
def lastG (G : List (List Itm)) : List Itm := G.getD (G.length - 1) []
/-- Where n items don't fit a new group is opened. -/
def openG (h : Int) (G : List (List Itm)) (n : Nat) : List (List Itm) := if 0 < (lastG G).length ∧ h < ((lastG G).length : Int) + n then G ++ [[]] else G
def putG (G : List (List Itm)) (own : List Itm) : List (List Itm) := G.set (G.length - 1) (lastG G ++ own)
def grpS (h : Int) (G : List (List Itm)) (own : List Itm) : List (List Itm) := putG (openG h G own.length) own
theorem openG_pos {h : Int} {G : List (List Itm)} {n : Nat} (h0 : 0 < G.length) : 0 < (openG h G n).length := by
  unfold openG
  split
  · simp
  · exact h0
theorem openG_len {h : Int} {G : List (List Itm)} {n : Nat} : (openG h G n).length ≤ G.length + 1 ∧ G.length ≤ (openG h G n).length := by unfold openG; split <;> simp
theorem putG_len {G : List (List Itm)} {own : List Itm} : (putG G own).length = G.length := by simp [putG]
theorem grpS_pos {h : Int} {G : List (List Itm)} {own : List Itm} (h0 : 0 < G.length) : 0 < (grpS h G own).length := by unfold grpS; rw [putG_len]; exact openG_pos h0
theorem grpS_len {h : Int} {G : List (List Itm)} {own : List Itm} : (grpS h G own).length ≤ G.length + 1 ∧ G.length ≤ (grpS h G own).length := by unfold grpS; rw [putG_len]; exact openG_len
theorem lastG_put {G : List (List Itm)} {own : List Itm} (h0 : 0 < G.length) : lastG (putG G own) = lastG G ++ own := by
  unfold lastG putG
  rw [List.length_set, List.getD_eq_getElem?_getD, List.getElem?_set_self (by omega)]; rfl
theorem putG_put {G : List (List Itm)} {a b : List Itm} (h0 : 0 < G.length) : putG (putG G a) b = putG G (a ++ b) := by
  have := lastG_put (own := a) h0
  unfold putG at *
  rw [List.length_set] at *
  rw [this, List.set_set, List.append_assoc]
theorem putG_nil {G : List (List Itm)} (h0 : 0 < G.length) : putG G [] = G := by
  unfold putG lastG
  rw [List.append_nil]
  apply List.ext_getElem?
  intro i
  rw [List.getElem?_set]
  split
  · rename_i e; subst e
    have hlt : G.length - 1 < G.length := by omega
    rw [if_pos hlt, List.getD_eq_getElem?_getD, List.getElem?_eq_getElem hlt]; rfl
  · rfl

/-! ### Runs of one key -/
def runs : List Itm → List (List Itm)
  | [] => []
  | x :: l => (x :: l.takeWhile fun y => decide (y.key = x.key)) :: runs (l.dropWhile fun y => decide (y.key = x.key))
termination_by l => l.length
decreasing_by
  have := (List.dropWhile_sublist (fun y : Itm => decide (y.key = x.key)) (l := l)).length_le
  simp; omega
/-- Groups, going on from G. -/
def splitR (h : Int) (G : List (List Itm)) (l : List Itm) : List (List Itm) := (runs l).foldl (grpS h) G
theorem splitR_nil (h : Int) (G : List (List Itm)) : splitR h G [] = G := by unfold splitR; rw [runs]; rfl
theorem tw_split {p : Itm → Bool} : ∀ {A B : List Itm}, (∀ y ∈ A, p y = true) → (∀ b B', B = b :: B' → p b = false) → (A ++ B).takeWhile p = A ∧ (A ++ B).dropWhile p = B
  | [], [], _, _ => ⟨rfl, rfl⟩
  | [], b :: B, _, h => by simp [h b B rfl]
  | a :: A, B, h1, h2 => by
    have ih := tw_split (A := A) (B := B) (fun y hy => h1 y (by simp [hy])) h2
    simp [h1 a (by simp), ih.1, ih.2]
theorem runs_step {l : List Itm} {i k : Nat} (hik : i < k) (hk : k ≤ l.length) (h1 : ∀ j : Nat, i ≤ j → j < k → (gE l (j : Int)).key = (gE l (i : Int)).key) (h2 : k < l.length → (gE l (k : Int)).key ≠ (gE l (i : Int)).key) :
    runs (l.drop i) = (l.drop i).take (k - i) :: runs (l.drop k) := by
  have hi : i < l.length := by omega
  have e1 : l.drop i = gE l (i : Int) :: l.drop (i + 1) := by rw [List.drop_eq_getElem_cons hi]; simp [gE, hi]
  have e2 : l.drop (i + 1) = (l.drop (i + 1)).take (k - (i + 1)) ++ l.drop k := by
    conv => lhs; rw [← List.take_append_drop (k - (i + 1)) (l.drop (i + 1)), List.drop_drop, show i + 1 + (k - (i + 1)) = k by omega]
  have hk1 : (l.drop i).take (k - i) = gE l (i : Int) :: (l.drop (i + 1)).take (k - (i + 1)) := by
    rw [e1, show k - i = (k - (i + 1)) + 1 by omega, List.take_succ_cons]
  obtain ⟨t1, t2⟩ := tw_split (p := fun y => decide (y.key = (gE l (i : Int)).key)) (A := (l.drop (i + 1)).take (k - (i + 1))) (B := l.drop k) (fun y hy => by
    obtain ⟨j, hj, rfl⟩ := List.mem_iff_getElem.1 hy
    simp only [List.length_take, List.length_drop] at hj
    have := h1 (i + 1 + j) (by omega) (by omega)
    rw [gE_nat, gN_getElem (by omega)] at this
    simpa using this) (fun b B hb => by
    have hlt : k < l.length := by
      rcases Nat.lt_or_ge k l.length with h | h
      · exact h
      · rw [List.drop_eq_nil_of_le h] at hb; cases hb
    have := h2 hlt
    rw [List.drop_eq_getElem_cons hlt] at hb
    obtain ⟨rfl, _⟩ := List.cons.inj hb
    simpa [gE, hlt] using this)
  rw [← e2] at t1 t2
  rw [hk1, e1, runs, t1, t2]
theorem splitR_step {h : Int} {G : List (List Itm)} {l : List Itm} {i k : Nat} (hik : i < k) (hk : k ≤ l.length) (h1 : ∀ j : Nat, i ≤ j → j < k → (gE l (j : Int)).key = (gE l (i : Int)).key) (h2 : k < l.length → (gE l (k : Int)).key ≠ (gE l (i : Int)).key) :
    splitR h G (l.drop i) = splitR h (grpS h G ((l.drop i).take (k - i))) (l.drop k) := by
  unfold splitR; rw [runs_step hik hk h1 h2]; rfl
/-- Groups of keys, as the program finds them. -/
def splitK (h : Int) (l : List Itm) (ks : List Int) : List (List Itm) := ks.foldl (fun G k => grpS h G (ownF l k)) [[]]

theorem lastG_eq {gs : List (SV × List Itm)} {m : Nat} (hm : gs.length = m + 1) : (gE gs (m : Int)).2 = lastG (gs.map (·.2)) := by
  unfold lastG gE
  rw [List.length_map, hm, List.getD_eq_getElem?_getD, List.getD_eq_getElem?_getD, List.getElem?_map, Int.toNat_natCast, Nat.add_sub_cancel]
  rw [List.getElem?_eq_getElem (by omega)]; rfl
theorem openG_yes {h : Int} {gs : List (SV × List Itm)} {k : Nat} {m : Nat} (hm : gs.length = m + 1) (hc : 0 < ((gE gs (m : Int)).2.length : Int) ∧ h < ((gE gs (m : Int)).2.length : Int) + k) :
    (gs ++ [((⟨.slice none 0 0, rfl⟩ : SV), ([] : List Itm))]).map (·.2) = openG h (gs.map (·.2)) k := by
  rw [lastG_eq hm] at hc
  unfold openG
  rw [if_pos ⟨by omega, hc.2⟩, List.map_append]; rfl
theorem openG_no {h : Int} {gs : List (SV × List Itm)} {k : Nat} {m : Nat} (hm : gs.length = m + 1) (hc : ¬ (0 < ((gE gs (m : Int)).2.length : Int) ∧ h < ((gE gs (m : Int)).2.length : Int) + k)) : gs.map (·.2) = openG h (gs.map (·.2)) k := by
  rw [lastG_eq hm] at hc
  unfold openG
  rw [if_neg fun h => hc ⟨by omega, h.2⟩]
theorem putG_eq {h : Int} {G : List (List Itm)} {gs : List (SV × List Itm)} {v : SV} {run : List Itm} {m : Nat} (hm : gs.length = m + 1) (hg : gs.map (·.2) = openG h G run.length) : (gs.set ((m : Int)).toNat (v, (gE gs (m : Int)).2 ++ run)).map (·.2) = grpS h G run := by
  unfold grpS putG
  rw [← hg, List.map_set, lastG_eq hm, List.length_map, hm, Int.toNat_natCast, Nat.add_sub_cancel]

theorem sizes_put {gs : List (SV × List Itm)} {v : SV} {run : List Itm} {i k m : Nat} (h : ∀ x ∈ gs, x.2.length ≤ i) (hm : m < gs.length) (hr : (gE gs (m : Int)).2.length + run.length ≤ k ∧ i ≤ k) : ∀ x ∈ gs.set ((m : Int)).toNat (v, (gE gs (m : Int)).2 ++ run), x.2.length ≤ k := fun x hx => by
  rcases List.mem_or_eq_of_mem_set hx with h1 | h1
  · have := h x h1; omega
  · subst h1; simp; omega

/-! ### The program's groups: sizes, and a map of places -/
section
variable {κ α : Type} [DecidableEq κ]
theorem aidx_shift : ∀ (l : List (κ × α)) (k : κ) (i : Nat), aidx l k (i + 1) = (aidx l k i).map fun p => (p.1 + 1, p.2)
  | [], _, _ => rfl
  | x :: r, k, i => by
    simp only [aidx]
    split
    · rfl
    · exact aidx_shift r k (i + 1)
theorem aget_cons (x : κ × α) (r : List (κ × α)) (k : κ) : aget (x :: r) k = if k = x.1 then some x.2 else aget r k := by
  unfold aget
  simp only [aidx]
  split
  · rfl
  · rw [aidx_shift]; cases aidx r k 0 <;> rfl
theorem aput_cons (x : κ × α) (r : List (κ × α)) (k : κ) (v : α) : aput (x :: r) k v = if k = x.1 then (k, v) :: r else x :: aput r k v := by
  unfold aput
  simp only [aidx]
  by_cases h : k = x.1
  · simp [h]
  · simp only [h, if_false, aidx_shift]
    cases aidx r k 0 with
    | none => simp
    | some p => simp
theorem aget_aput (l : List (κ × α)) (k : κ) (v : α) (k' : κ) : aget (aput l k v) k' = if k' = k then some v else aget l k' := by
  induction l with
  | nil => simp [aput, aidx, aget_cons]
  | cons x r ih =>
    rw [aput_cons]
    by_cases h : k = x.1
    · rw [if_pos h, aget_cons, aget_cons]
      by_cases h2 : k' = k
      · simp [h2]
      · have : ¬ k' = x.1 := fun e => h2 (e.trans h.symm)
        simp [h2, this]
    · rw [if_neg h, aget_cons, aget_cons, ih]
      by_cases h3 : k' = x.1
      · have : ¬ k' = k := fun e => h (e ▸ h3)
        simp [h3]
        intro e; exact absurd e.symm h
      · simp [h3]
end
abbrev szs (G : List (List Itm)) : List Int := G.map fun g => (g.length : Int)
theorem szs_len (G : List (List Itm)) : (szs G).length = G.length := List.length_map _
theorem szs_at (G : List (List Itm)) (j : Int) : gE (szs G) j = ((gE G j).length : Int) := gE_map (fun g : List Itm => (g.length : Int)) rfl G j
theorem lastG_at {G : List (List Itm)} {m : Nat} (h : G.length = m + 1) : gE G (m : Int) = lastG G := by
  unfold gE lastG; rw [Int.toNat_natCast, h, Nat.add_sub_cancel]; rfl
theorem szs_last {G : List (List Itm)} {m : Nat} (h : G.length = m + 1) : gE (szs G) (m : Int) = ((lastG G).length : Int) := by rw [szs_at, lastG_at h]
theorem szs_yes {h : Int} {G : List (List Itm)} {n m : Nat} (hm : G.length = m + 1) (hc : 0 < gE (szs G) (m : Int) ∧ h < gE (szs G) (m : Int) + n) : szs G ++ [0] = szs (openG h G n) := by
  rw [szs_last hm] at hc
  unfold openG; rw [if_pos ⟨by omega, hc.2⟩]; simp
theorem openG_yes' {h : Int} {G : List (List Itm)} {n m : Nat} (hm : G.length = m + 1) (hc : 0 < gE (szs G) (m : Int) ∧ h < gE (szs G) (m : Int) + n) : (openG h G n).length = m + 2 := by
  rw [szs_last hm] at hc
  unfold openG; rw [if_pos ⟨by omega, hc.2⟩]; simp; omega
theorem openG_no' {h : Int} {G : List (List Itm)} {n m : Nat} (hm : G.length = m + 1) (hc : ¬ (0 < gE (szs G) (m : Int) ∧ h < gE (szs G) (m : Int) + n)) : openG h G n = G := by
  rw [szs_last hm] at hc
  unfold openG; rw [if_neg fun h => hc ⟨by omega, h.2⟩]
theorem put_len1 {G : List (List Itm)} {a : List Itm} {m : Nat} (hm : G.length = m + 1) : (putG G a).length = m + 1 := by rw [putG_len, hm]
theorem put_size {G : List (List Itm)} {a : List Itm} {m : Nat} (hm : G.length = m + 1) : gE (szs (putG G a)) (m : Int) = ((lastG G).length : Int) + a.length := by
  rw [szs_last (put_len1 hm), lastG_put (by omega)]; simp
theorem szs_put {G : List (List Itm)} {a : List Itm} {x : Itm} {m : Nat} (hm : G.length = m + 1) : (szs (putG G a)).set ((m : Int)).toNat (gE (szs (putG G a)) (m : Int) + 1) = szs (putG G (a ++ [x])) := by
  rw [put_size hm]
  unfold putG szs
  rw [List.map_set, List.map_set, hm, Int.toNat_natCast, Nat.add_sub_cancel, List.set_set]
  congr 1
  simp; omega
/-- The map tells the groups. -/
def MapG (m : List ((Int × Int) × Itm)) (G : List (List Itm)) : Prop := ∀ a b : Nat, aget m ((a : Int), (b : Int)) = (G.getD a [])[b]?
theorem mapG_nil : MapG [] [[]] := fun a b => by
  rcases a with _ | a <;> simp [aget, aidx]
theorem mapG_open {m : List ((Int × Int) × Itm)} {h : Int} {G : List (List Itm)} {n : Nat} (hG : MapG m G) : MapG m (openG h G n) := fun a b => by
  rw [hG a b]
  unfold openG
  split
  · rw [List.getD_eq_getElem?_getD, List.getD_eq_getElem?_getD]
    rcases Nat.lt_trichotomy a G.length with h1 | h1 | h1
    · rw [List.getElem?_append_left h1]
    · rw [h1, List.getElem?_append_right (Nat.le_refl _), List.getElem?_eq_none (Nat.le_refl _)]; simp
    · rw [List.getElem?_eq_none (Nat.le_of_lt h1), List.getElem?_eq_none (l := G ++ [[]]) (by rw [List.length_append, List.length_singleton]; omega)]
  · rfl
theorem mapG_put {m : List ((Int × Int) × Itm)} {G : List (List Itm)} {a : List Itm} {x : Itm} {mm : Nat} (hm : G.length = mm + 1) (hG : MapG m (putG G a)) : MapG (aput m ((mm : Int), gE (szs (putG G a)) (mm : Int)) x) (putG G (a ++ [x])) := fun c b => by
  rw [aget_aput, put_size hm, hG c b]
  have e1 : ∀ y, (putG G y).getD c [] = if c = mm then lastG G ++ y else G.getD c [] := fun y => by
    unfold putG
    rw [List.getD_eq_getElem?_getD, List.getElem?_set, hm, Nat.add_sub_cancel]
    by_cases h : mm = c
    · subst h; simp
    · have h' : ¬ c = mm := fun e => h e.symm
      simp [h, h', List.getD_eq_getElem?_getD]
  rw [e1, e1]
  by_cases hc : c = mm
  · subst hc
    simp only [if_true]
    by_cases hb : (b : Int) = ((lastG G).length : Int) + a.length
    · have hb' : b = (lastG G ++ a).length := by simp; omega
      rw [if_pos (by rw [hb]), ← List.append_assoc, hb']; simp
    · have hb' : b ≠ (lastG G ++ a).length := by simp; omega
      rw [if_neg (fun e => hb (Prod.mk.inj e).2), ← List.append_assoc]
      rcases Nat.lt_or_ge b (lastG G ++ a).length with h | h
      · rw [List.getElem?_append_left h]
      · rw [List.getElem?_eq_none h, List.getElem?_eq_none (by rw [List.length_append (bs := [x]), List.length_singleton]; omega)]
  · rw [if_neg (fun e => hc (by have := (Prod.mk.inj e).1; omega)), if_neg hc, if_neg hc]
theorem splitK_step {h : Int} {l : List Itm} {ks : List Int} {i : Nat} (hi : i < ks.length) : splitK h l (ks.take (i + 1)) = grpS h (splitK h l (ks.take i)) (ownF l (gE ks (i : Int))) := by
  rw [take_snoc hi]; simp [splitK, List.foldl_append]
theorem agetV_at {m : List ((Int × Int) × Itm)} {G : List (List Itm)} {z : Value} {a b : Nat} (hG : MapG m G) (ha : a < G.length) (hb : b < (gE G (a : Int)).length) : agetV vfI z m ((a : Int), (b : Int)) = vfI (gE (gE G (a : Int)) (b : Int)) := by
  unfold agetV
  have e : (G.getD a [])[b]? = some (gE (gE G (a : Int)) (b : Int)) := by
    have : G.getD a [] = gE G (a : Int) := by unfold gE; rw [Int.toNat_natCast]; rfl
    rw [this]; simp [gE, List.getD_eq_getElem?_getD] at hb ⊢
    simp [hb]
  rw [hG a b, e]
theorem own_le (l : List Itm) (k : Int) : (ownF l k).length ≤ l.length := List.length_filter_le _ _
theorem put_bd {h : Int} {G : List (List Itm)} {own : List Itm} {b c : Nat} (h0 : 0 < G.length) (hb : ∀ g ∈ G, g.length ≤ b) (hc : b + own.length ≤ c) : ∀ g ∈ putG (openG h G own.length) own, g.length ≤ c := fun g hg => by
  have h1 : ∀ g ∈ openG h G own.length, g.length ≤ b := by
    unfold openG
    split
    · intro g hg
      rcases List.mem_append.1 hg with hg | hg
      · exact hb g hg
      · simp at hg; subst hg; exact Nat.zero_le _
    · exact hb
  have hpos := openG_pos (h := h) (n := own.length) h0
  unfold putG at hg
  rcases List.mem_or_eq_of_mem_set hg with hg | hg
  · have := h1 g hg; omega
  · subst hg
    have : lastG (openG h G own.length) ∈ openG h G own.length := by
      unfold lastG; rw [List.getD_eq_getElem?_getD, List.getElem?_eq_getElem (by omega)]; exact List.getElem_mem _
    have := h1 _ this
    simp; omega
/-- The groups laid so far. -/
theorem laid_step {gs : List (SV × List Itm)} {G : List (List Itm)} {g i : Nat} {v : SV} (hg : g < G.length) (hi : i < (gE G (g : Int)).length) (hl : gs.length = G.length) (h : gs.map (·.2) = G.take g ++ (gE G (g : Int)).take i :: List.replicate (G.length - g - 1) []) :
    (gs.set ((g : Int)).toNat (v, (gE gs (g : Int)).2 ++ [gE (gE G (g : Int)) (i : Int)])).map (·.2) = G.take g ++ (gE G (g : Int)).take (i + 1) :: List.replicate (G.length - g - 1) [] := by
  have e : (gE gs (g : Int)).2 = (gE G (g : Int)).take i := by
    have h1 := congrArg (fun x => gE x (g : Int)) h
    rw [gE_map (fun x : SV × List Itm => x.2) rfl] at h1
    rw [h1]
    unfold gE
    rw [Int.toNat_natCast, List.getD_eq_getElem?_getD, List.getElem?_append_right (by simp; omega)]
    simp [List.length_take, Nat.min_eq_left (Nat.le_of_lt hg)]
  rw [List.map_set, h, e, ← take_snoc hi, Int.toNat_natCast, List.set_append_right _ _ (by simp; omega)]
  simp [List.length_take, Nat.min_eq_left (Nat.le_of_lt hg)]
theorem laid_open {G : List (List Itm)} {g : Nat} (hg : g < G.length) : G.take g ++ List.replicate (G.length - g) [] = G.take g ++ (gE G (g : Int)).take 0 :: List.replicate (G.length - g - 1) [] := by
  rw [show G.length - g = (G.length - g - 1) + 1 by omega, List.replicate_succ]; simp
theorem laid_shut {G : List (List Itm)} {g i : Nat} (hg : g < G.length) (hi : (gE G (g : Int)).length ≤ i) : G.take g ++ (gE G (g : Int)).take i :: List.replicate (G.length - g - 1) [] = G.take (g + 1) ++ List.replicate (G.length - (g + 1)) [] := by
  rw [List.take_of_length_le hi, take_snoc hg, show G.length - (g + 1) = G.length - g - 1 by omega]; simp
theorem open_last {h : Int} {G : List (List Itm)} {n b : Nat} (h0 : 0 < G.length) (hb : ∀ g ∈ G, g.length ≤ b) : (lastG (openG h G n)).length ≤ b := by
  have h1 : ∀ g ∈ openG h G n, g.length ≤ b := by
    unfold openG
    split
    · intro g hg
      rcases List.mem_append.1 hg with hg | hg
      · exact hb g hg
      · simp at hg; subst hg; exact Nat.zero_le _
    · exact hb
  have hpos := openG_pos (h := h) (n := n) h0
  refine h1 _ ?_
  unfold lastG; rw [List.getD_eq_getElem?_getD, List.getElem?_eq_getElem (by omega)]; exact List.getElem_mem _
theorem laid_at {gs : List (SV × List Itm)} {G : List (List Itm)} {g i : Nat} (hg : g < G.length) (h : gs.map (·.2) = G.take g ++ (gE G (g : Int)).take i :: List.replicate (G.length - g - 1) []) : (gE gs (g : Int)).2 = (gE G (g : Int)).take i := by
  have h1 := congrArg (fun x => gE x (g : Int)) h
  rw [gE_map (fun x : SV × List Itm => x.2) rfl] at h1
  rw [h1]
  unfold gE
  rw [Int.toNat_natCast, List.getD_eq_getElem?_getD, List.getElem?_append_right (by simp; omega)]
  simp [List.length_take, Nat.min_eq_left (Nat.le_of_lt hg)]
end Go.Proofs.Ytejpanipdjknjaa
