/- What the statements on groups say, in lists alone. -/
import Derived.Test.YtejpanipdjknjaaL8P
import Derived.Test.YtejpanipdjknjaaGrpC
import Derived.Test.YtejpanipdjknjaaG3
namespace Go.Proofs.Ytejpanipdjknjaa
open Go Go.RowKit
set_option linter.unusedVariables false
theorem ints_strict : ∀ {s t : List Int}, s.Pairwise (· < ·) → t.Pairwise (· < ·) → (∀ x, x ∈ s ↔ x ∈ t) → s = t
  | [], [], _, _, _ => rfl
  | [], y :: t, _, _, h => absurd ((h y).2 (by simp)) (by simp)
  | x :: s, [], _, _, h => absurd ((h x).1 (by simp)) (by simp)
  | x :: s, y :: t, hs, ht, h => by
    obtain ⟨hs1, hs2⟩ := List.pairwise_cons.1 hs
    obtain ⟨ht1, ht2⟩ := List.pairwise_cons.1 ht
    have e : x = y := by
      rcases List.mem_cons.1 ((h x).1 (by simp)) with e | h1
      · exact e
      · rcases List.mem_cons.1 ((h y).2 (by simp)) with e | h2
        · exact e.symm
        · have := ht1 x h1; have := hs1 y h2; omega
    subst e
    rw [ints_strict hs2 ht2 fun z => ?_]
    constructor
    · intro hz
      rcases List.mem_cons.1 ((h z).1 (by simp [hz])) with rfl | h1
      · exact (Int.lt_irrefl _ (hs1 z hz)).elim
      · exact h1
    · intro hz
      rcases List.mem_cons.1 ((h z).2 (by simp [hz])) with rfl | h1
      · exact (Int.lt_irrefl _ (ht1 z hz)).elim
      · exact h1
/-- Of sorted items: the first key's, and those behind it. -/
theorem run_split {x : Itm} {l : List Itm} (h : (x :: l).Pairwise leI) :
    (∀ y ∈ l.takeWhile fun y => decide (y.key = x.key), y.key = x.key) ∧ (∀ y ∈ l.dropWhile fun y => decide (y.key = x.key), x.key < y.key) ∧ (l.dropWhile fun y => decide (y.key = x.key)).Pairwise leI := by
  obtain ⟨h1, h2⟩ := List.pairwise_cons.1 h
  have hd := h2.sublist (List.dropWhile_sublist (fun y : Itm => decide (y.key = x.key)))
  refine ⟨fun y hy => by simpa using List.all_eq_true.1 (List.all_takeWhile (p := fun y : Itm => decide (y.key = x.key)) (l := l)) y hy, fun y hy => ?_, hd⟩
  cases hc : l.dropWhile (fun y : Itm => decide (y.key = x.key)) with
  | nil => rw [hc] at hy; cases hy
  | cons z r =>
    have hz := List.head_dropWhile_not (fun y : Itm => decide (y.key = x.key)) (w := (by rw [hc]; simp : l.dropWhile (fun y : Itm => decide (y.key = x.key)) ≠ []))
    simp only [hc, List.head_cons, decide_eq_false_iff_not] at hz
    have hzl : z ∈ l := (List.dropWhile_sublist (fun y : Itm => decide (y.key = x.key))).subset (by rw [hc]; simp)
    have hx := h1 z hzl
    rw [hc] at hy hd
    have : z.key ≤ y.key := by
      rcases List.mem_cons.1 hy with rfl | hy
      · exact Int.le_refl _
      · have := (List.pairwise_cons.1 hd).1 y hy; unfold leI at this; omega
    unfold leI at hx; omega
theorem runs_keys : ∀ n (s : List Itm), s.length ≤ n → s.Pairwise leI → ∃ ks : List Int, ks.Pairwise (· < ·) ∧ (∀ k, k ∈ ks ↔ ∃ x ∈ s, x.key = k) ∧ runs s = ks.map (ownF s)
  | _, [], _, _ => ⟨[], .nil, by simp, by rw [runs]; rfl⟩
  | 0, x :: l, h, _ => absurd h (by simp)
  | n + 1, x :: l, hn, h => by
    obtain ⟨h1, h2, h3⟩ := run_split h
    have hlen := (List.dropWhile_sublist (fun y : Itm => decide (y.key = x.key)) (l := l)).length_le
    obtain ⟨ks, i1, i2, i3⟩ := runs_keys n _ (by simp at hn; omega) h3
    have hl : l = l.takeWhile (fun y => decide (y.key = x.key)) ++ l.dropWhile (fun y => decide (y.key = x.key)) := List.takeWhile_append_dropWhile.symm
    have hks : ∀ k ∈ ks, x.key < k := fun k hk => by obtain ⟨y, hy, rfl⟩ := (i2 k).1 hk; exact h2 y hy
    refine ⟨x.key :: ks, List.pairwise_cons.2 ⟨hks, i1⟩, fun k => ?_, ?_⟩
    · rw [List.mem_cons, i2]
      constructor
      · rintro (rfl | ⟨y, hy, rfl⟩)
        · exact ⟨x, by simp, rfl⟩
        · exact ⟨y, List.mem_cons_of_mem _ ((List.dropWhile_sublist _).subset hy), rfl⟩
      · rintro ⟨y, hy, rfl⟩
        rcases List.mem_cons.1 hy with rfl | hy
        · exact .inl rfl
        · rw [hl] at hy
          rcases List.mem_append.1 hy with hy | hy
          · exact .inl (h1 y hy)
          · exact .inr ⟨y, hy, rfl⟩
    · rw [runs, i3, List.map_cons]
      congr 1
      · unfold ownF
        rw [List.filter_cons, if_pos (by simp)]
        congr 1
        conv => rhs; rw [hl]
        rw [List.filter_append, List.filter_eq_self.2 (fun y (hy : y ∈ l.takeWhile _) => by simpa using h1 y hy), List.filter_eq_nil_iff.2 (fun y (hy : y ∈ l.dropWhile _) => by have := h2 y hy; simp; omega), List.append_nil]
      · refine List.map_congr_left fun k hk => ?_
        have hk := hks k hk
        unfold ownF
        rw [List.filter_cons, if_neg (by simp; omega)]
        conv => rhs; rw [hl]
        rw [List.filter_append, List.filter_eq_nil_iff.2 (fun y (hy : y ∈ l.takeWhile _) => by have := h1 y hy; simp; omega), List.nil_append]
theorem split_same {l : List Itm} (h : Int) : splitK h (sortF l) (keysP (sortF l)) = splitR h [[]] (sortF l) := by
  obtain ⟨ks, h1, h2, h3⟩ := runs_keys _ (sortF l) (Nat.le_refl _) (sortF_spec l).2
  have : keysP (sortF l) = ks := by
    rw [keys_eq, sort_sorted]
    exact ints_strict (keysF_rise _ (sortF_spec l).2) h1 fun k => by rw [keysF_mem, h2]
  rw [this, splitR, h3, splitK, List.foldl_map]
theorem half_same (c : Int) : min (max c 2) 16 / 2 = max 2 (min c 16) / 2 := by omega

/-! ### What groups are -/
def riseG (a b : List Itm) : Prop := ∀ x ∈ a, ∀ y ∈ b, x.key < y.key
def oneK (g : List Itm) : Prop := ∀ x ∈ g, ∀ y ∈ g, x.key = y.key
structure GI (h : Int) (pre : List (List Itm)) (last : List Itm) : Prop where
  rise : (pre ++ [last]).Pairwise riseG
  full : ∀ g ∈ pre, g ≠ []
  size : ∀ g ∈ pre ++ [last], (g.length : Int) ≤ h ∨ oneK g
theorem grpS_snoc (h : Int) (pre : List (List Itm)) (last own : List Itm) : grpS h (pre ++ [last]) own = if 0 < last.length ∧ h < (last.length : Int) + own.length then pre ++ [last] ++ [own] else pre ++ [last ++ own] := by
  have hl : ∀ (p : List (List Itm)) (q : List Itm), lastG (p ++ [q]) = q := fun p q => by unfold lastG; simp
  have hp : ∀ (p : List (List Itm)) (q o : List Itm), putG (p ++ [q]) o = p ++ [q ++ o] := fun p q o => by
    unfold putG; rw [hl]; simp
  unfold grpS openG
  rw [hl]
  split
  · rw [hp]; simp
  · rw [hp]
theorem split_inv {h : Int} : ∀ n (l : List Itm), l.length ≤ n → l.Pairwise leI → ∀ pre last, (∀ g ∈ pre ++ [last], riseG g l) → GI h pre last →
    ∃ pre' last', splitR h (pre ++ [last]) l = pre' ++ [last'] ∧ GI h pre' last' ∧ (pre' ++ [last']).flatten = (pre ++ [last]).flatten ++ l ∧ (l ≠ [] ∨ last ≠ [] → last' ≠ [])
  | _, [], _, _, pre, last, _, hG => ⟨pre, last, splitR_nil _ _, hG, by simp, fun h => h.resolve_left (by simp)⟩
  | 0, x :: l, h, _, _, _, _, _ => absurd h (by simp)
  | n + 1, x :: l, hn, hs, pre, last, hr, hG => by
    obtain ⟨h1, h2, h3⟩ := run_split hs
    have hlen := (List.dropWhile_sublist (fun y : Itm => decide (y.key = x.key)) (l := l)).length_le
    have hl : l = l.takeWhile (fun y => decide (y.key = x.key)) ++ l.dropWhile (fun y => decide (y.key = x.key)) := List.takeWhile_append_dropWhile.symm
    have hown : ∀ y ∈ x :: l.takeWhile (fun y => decide (y.key = x.key)), y.key = x.key := fun y hy => by
      rcases List.mem_cons.1 hy with rfl | hy
      · rfl
      · exact h1 y hy
    have e : splitR h (pre ++ [last]) (x :: l) = splitR h (grpS h (pre ++ [last]) (x :: l.takeWhile fun y => decide (y.key = x.key))) (l.dropWhile fun y => decide (y.key = x.key)) := by
      unfold splitR; rw [runs]; rfl
    have hone : oneK (x :: l.takeWhile fun y => decide (y.key = x.key)) := fun a ha b hb => (hown a ha).trans (hown b hb).symm
    have hdrop : riseG (x :: l.takeWhile fun y => decide (y.key = x.key)) (l.dropWhile fun y => decide (y.key = x.key)) := fun a ha b hb => by rw [hown a ha]; exact h2 b hb
    have hto : ∀ g ∈ pre ++ [last], riseG g (x :: l.takeWhile fun y => decide (y.key = x.key)) := fun g hg a ha b hb => by rw [hown b hb]; exact hr g hg a ha x (by simp)
    have hto2 : ∀ g ∈ pre ++ [last], riseG g (l.dropWhile fun y => decide (y.key = x.key)) := fun g hg a ha b hb => hr g hg a ha b (List.mem_cons_of_mem _ ((List.dropWhile_sublist _).subset hb))
    generalize hO : (x :: l.takeWhile fun y => decide (y.key = x.key)) = own at *
    generalize hD : (l.dropWhile fun y => decide (y.key = x.key)) = rest at *
    have hne : own ≠ [] := by rw [← hO]; simp
    have hfl : x :: l = own ++ rest := by rw [← hO, List.cons_append, ← hl]
    rw [e, grpS_snoc]
    split
    · rename_i hc
      obtain ⟨p, q, j1, j2, j3, j4⟩ := split_inv n rest (by simp at hn; omega) h3 (pre ++ [last]) own (fun g hg => by
          rcases List.mem_append.1 hg with hg | hg
          · exact hto2 g hg
          · simp at hg; subst hg; exact hdrop) ⟨by
          refine List.pairwise_append.2 ⟨hG.rise, by simp, fun a ha b hb => ?_⟩
          simp at hb; subst hb; exact hto a ha, fun g hg => by
          rcases List.mem_append.1 hg with hg | hg
          · exact hG.full g hg
          · simp at hg; subst hg; intro e; subst e; simp at hc, fun g hg => by
          rcases List.mem_append.1 hg with hg | hg
          · exact hG.size g hg
          · simp at hg; subst hg; exact .inr hone⟩
      refine ⟨p, q, j1, j2, ?_, fun _ => j4 (.inr hne)⟩
      rw [j3, hfl]; simp
    · rename_i hc
      obtain ⟨p, q, j1, j2, j3, j4⟩ := split_inv n rest (by simp at hn; omega) h3 pre (last ++ own) (fun g hg => by
          rcases List.mem_append.1 hg with hg | hg
          · exact hto2 g (by simp [hg])
          · simp at hg; subst hg
            intro a ha
            rcases List.mem_append.1 ha with ha | ha
            · exact hto2 last (by simp) a ha
            · exact hdrop a ha) ⟨by
          obtain ⟨r1, r2, r3⟩ := List.pairwise_append.1 hG.rise
          refine List.pairwise_append.2 ⟨r1, by simp, fun a ha b hb => ?_⟩
          simp at hb; subst hb
          intro u hu v hv
          rcases List.mem_append.1 hv with hv | hv
          · exact r3 a ha last (by simp) u hu v hv
          · exact hto a (by simp [ha]) u hu v hv, hG.full, fun g hg => by
          rcases List.mem_append.1 hg with hg | hg
          · exact hG.size g (by simp [hg])
          · simp at hg; subst hg
            by_cases hz : last = []
            · subst hz; exact .inr hone
            · have := List.length_pos_iff.2 hz
              left; rw [List.length_append]; omega⟩
      refine ⟨p, q, j1, j2, ?_, fun _ => j4 (.inr (by simp [hne]))⟩
      rw [j3, hfl]; simp
/-- The groups of sorted items. -/
theorem split_all {h : Int} {s : List Itm} (hs : s.Pairwise leI) : ∃ pre last, splitR h [[]] s = pre ++ [last] ∧ GI h pre last ∧ (pre ++ [last]).flatten = s ∧ (s ≠ [] → last ≠ []) := by
  obtain ⟨p, q, h1, h2, h3, h4⟩ := split_inv (h := h) _ s (Nat.le_refl _) hs [] [] (fun g hg => by simp at hg; subst hg; intro a ha; cases ha) ⟨by simp, by simp, fun g hg => by simp at hg; subst hg; exact .inr fun a ha => by cases ha⟩
  exact ⟨p, q, h1, h2, by simpa using h3, fun h => h4 (.inl h)⟩
abbrev grpF (h : Int) (l : List Itm) : List (List Itm) := splitR h [[]] (sortF l)
theorem gE_in {α : Type} [Inhabited α] {l : List α} {j : Nat} (h : j < l.length) : gE l (j : Int) ∈ l := gE_mem' (by omega)
section
variable {h : Int} {l : List Itm}
theorem grp_flat : (grpF h l).flatten = sortF l := by
  obtain ⟨p, q, h1, _, h3, _⟩ := split_all (h := h) (sortF_spec l).2
  rw [grpF, h1, h3]
theorem grp_pos : 0 < (grpF h l).length := by
  obtain ⟨p, q, h1, _, h3, _⟩ := split_all (h := h) (sortF_spec l).2
  rw [grpF, h1]; simp
theorem grp_full (hl : l ≠ []) : ∀ g ∈ grpF h l, 0 < g.length := by
  obtain ⟨p, q, h1, h2, h3, h4⟩ := split_all (h := h) (sortF_spec l).2
  rw [grpF, h1]
  intro g hg
  refine List.length_pos_iff.2 ?_
  rcases List.mem_append.1 hg with hg | hg
  · exact h2.full g hg
  · simp at hg; subst hg
    exact h4 fun e => hl (List.length_eq_zero_iff.1 (by have := sortF_length l; rw [e] at this; simpa using this.symm))
theorem flat_len : ∀ {G : List (List Itm)}, (∀ g ∈ G, 0 < g.length) → G.length ≤ G.flatten.length
  | [], _ => Nat.zero_le _
  | g :: G, h => by
    have := flat_len (G := G) fun x hx => h x (by simp [hx])
    have := h g (by simp)
    simp at *; omega
theorem flat_bd {G : List (List Itm)} {g : List Itm} (hg : g ∈ G) : g.length ≤ G.flatten.length := by
  exact (List.sublist_flatten_of_mem hg).length_le
theorem grp_nil (hl : l = []) : grpF h l = [[]] := by subst hl; exact splitR_nil _ _
theorem grp_len : (grpF h l).length ≤ l.length + 1 := by
  by_cases hl : l = []
  · rw [grp_nil hl]; simp
  · have := flat_len (grp_full (h := h) hl)
    rw [grp_flat, sortF_length] at this; omega
theorem grp_bd {g : List Itm} (hg : g ∈ grpF h l) : g.length ≤ l.length := by
  have := flat_bd hg
  rwa [grp_flat, sortF_length] at this
theorem grp_two (h2 : 1 < (grpF h l).length) : l ≠ [] := fun e => by rw [grp_nil e] at h2; simp at h2
theorem grp_gt {i : Nat} (hl : l ≠ []) (hi : i < (grpF h l).length) : 0 < (gE (grpF h l) (i : Int)).length := grp_full hl _ (gE_in hi)
theorem grp_rise {i j : Nat} (hij : i < j) (hj : j < (grpF h l).length) : riseG (gE (grpF h l) (i : Int)) (gE (grpF h l) (j : Int)) := by
  obtain ⟨p, q, h1, h2, h3, h4⟩ := split_all (h := h) (sortF_spec l).2
  have hp : (grpF h l).Pairwise riseG := by rw [grpF, h1]; exact h2.rise
  have := List.pairwise_iff_getElem.1 hp i j (by omega) hj hij
  simpa [gE, hj, show i < (grpF h l).length by omega] using this
theorem grp_size {g : List Itm} (hg : g ∈ grpF h l) : (g.length : Int) ≤ h ∨ oneK g := by
  obtain ⟨p, q, h1, h2, h3, h4⟩ := split_all (h := h) (sortF_spec l).2
  rw [grpF, h1] at hg
  exact h2.size g hg
theorem grp_sub {g : List Itm} (hg : g ∈ grpF h l) : ∀ x ∈ g, x ∈ l := fun x hx => by
  have : x ∈ (grpF h l).flatten := List.mem_flatten.2 ⟨g, hg, hx⟩
  rw [grp_flat] at this
  exact (sortF_spec l).1.perm.mem_iff.1 this
/-- Keys rise from one group to the next. -/
theorem grp_next {i : Nat} (h1 : i + 1 < (grpF h l).length) : (gE (gE (grpF h l) (i : Int)) (((gE (grpF h l) (i : Int)).length : Int) - 1)).key < (gE (gE (grpF h l) ((i : Int) + 1)) 0).key := by
  have hl := grp_two (h := h) (l := l) (show 1 < (grpF h l).length by omega)
  have ha := grp_gt (h := h) hl (i := i) (by omega)
  have hb := grp_gt (h := h) hl (i := i + 1) h1
  have hr := grp_rise (h := h) (l := l) (Nat.lt_succ_self i) h1
  have e : ((i + 1 : Nat) : Int) = (i : Int) + 1 := by omega
  rw [Nat.succ_eq_add_one] at hr
  rw [e] at hr hb
  refine hr _ (gE_mem' (by omega)) _ (gE_mem' (by omega))
theorem grp_one {i : Nat} (hi : i < (grpF h l).length) (h0 : 0 ≤ h) (hc : h < ((gE (grpF h l) (i : Int)).length : Int)) : (gE (gE (grpF h l) (i : Int)) 0).key = (gE (gE (grpF h l) (i : Int)) (((gE (grpF h l) (i : Int)).length : Int) - 1)).key := by
  rcases grp_size (gE_in hi) with h1 | h1
  · omega
  · exact h1 _ (gE_mem' (by omega)) _ (gE_mem' (by omega))
theorem grp_free {vs : List Int} {n : Nat} (hW : ∀ x ∈ l, x.ver ≤ maxI) {i : Nat} (hi : i < (splitR h [[]] (keptF l vs)).length) (hv : vs.length ≤ n) (hh : h ≤ (n : Int) + 1) : (gE (splitR h [[]] (keptF l vs)) (i : Int)).length ≤ n + 1 := by
  have hst : (keptF l vs).Pairwise leI := (kept_strict l vs).imp fun {a b} h => lt_le h
  obtain ⟨p, q, h1, h2, h3, h4⟩ := split_all (h := h) hst
  have hg := gE_in hi
  generalize gE (splitR h [[]] (keptF l vs)) (i : Int) = g at hg ⊢
  rw [h1] at hg
  rcases h2.size g hg with h5 | h5
  · omega
  · cases g with
    | nil => simp
    | cons x g =>
      have hs : (x :: g).Sublist (keptF l vs) := by rw [← h3]; exact List.sublist_flatten_of_mem hg
      have h6 := (hs.filter (fun y => decide (y.key = x.key))).length_le
      rw [List.filter_eq_self.2 (fun y hy => by simpa using h5 y hy x (by simp))] at h6
      have h7 := kept_few (l := l) (vs := vs) hW x.key
      unfold cntK at h7
      omega
theorem free_pos {vs : List Int} : 0 < (splitR h [[]] (keptF l vs)).length := by
  have hst : (keptF l vs).Pairwise leI := (kept_strict l vs).imp fun {a b} h => lt_le h
  obtain ⟨p, q, h1, h2, h3, h4⟩ := split_all (h := h) hst
  rw [h1]; simp
theorem grp_min {i : Nat} {least : Int} (h1 : 1 ≤ i) (hi : i < (grpF h l).length) : minG least (grpF h l) i = (gE (gE (grpF h l) (i : Int)) 0).key := by
  have := grp_gt (h := h) (grp_two (h := h) (l := l) (by omega)) hi
  unfold minG
  rw [if_neg (by omega), if_neg (by omega)]
theorem grp_mins {i : Nat} {least : Int} (hm : ∀ x ∈ l, least ≤ x.key) (h1 : 1 ≤ i) (hi : i < (grpF h l).length) : minG least (grpF h l) (i - 1) < minG least (grpF h l) i := by
  have hl := grp_two (h := h) (l := l) (by omega)
  have h2 := grp_gt (h := h) hl hi
  have h3 := grp_gt (h := h) hl (i := i - 1) (by omega)
  have hr := grp_rise (h := h) (l := l) (i := i - 1) (by omega) hi _ (gE_mem' (j := 0) (by omega)) _ (gE_mem' (j := 0) (by omega))
  rw [grp_min h1 hi]
  unfold minG
  split
  · have := hm _ (grp_sub (h := h) (gE_in (l := grpF h l) (j := i - 1) (by omega)) _ (gE_mem' (l := gE (grpF h l) ((i - 1 : Nat) : Int)) (j := 0) (by omega)))
    omega
  · rw [if_neg (by omega)]; exact hr
end
/-! ### Chunks of groups -/
theorem items_cells {cap : Nat} {g : List Itm} (hg : ∀ x ∈ g, 0 ≤ x.ver ∧ x.ver ≤ 1048576) : itemsF (cellsP cap g g.length) = g := by
  unfold itemsF cellsP
  rw [List.take_length, List.filter_append, List.map_append]
  have e1 : (List.replicate (cap - g.length) (⟨0, 0, 0⟩ : Cel)).filter (fun x => decide (3 ≤ x.state)) = [] := List.filter_eq_nil_iff.2 fun x hx => by
    rw [List.mem_replicate] at hx; rw [hx.2]; simp
  rw [e1, List.map_nil, List.append_nil]
  clear e1
  induction g with
  | nil => rfl
  | cons x g ih =>
    have hx := hg x (by simp)
    rw [List.map_cons, List.filter_cons, if_pos (by show decide (3 ≤ min (max x.ver 0) 16777212 + 3) = true; rw [decide_eq_true_eq]; omega), List.map_cons, ih fun y hy => hg y (by simp [hy])]
    congr 1
    unfold cellP verF
    have : min (max x.ver 0) 16777212 = x.ver := by omega
    dsimp only
    rw [this, if_neg (by omega), show x.ver + 3 - 3 = x.ver by omega]
end Go.Proofs.Ytejpanipdjknjaa
