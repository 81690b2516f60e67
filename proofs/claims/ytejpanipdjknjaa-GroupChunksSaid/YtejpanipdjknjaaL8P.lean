/- What the statements on what is kept say, in lists alone. -/
import Derived.Test.YtejpanipdjknjaaKeepP
namespace Go.Proofs.Ytejpanipdjknjaa
open Go Go.RowKit
set_option linter.unusedVariables false
theorem kept_sub {l : List Itm} {vs : List Int} (hW : ∀ x ∈ l, x.ver ≤ maxI) {x : Itm} (h : x ∈ keptF l vs) : x ∈ l := by
  obtain ⟨v, _, hv⟩ := (kept_iff hW).1 h
  exact (lat_some.1 hv).mem
theorem kept_strict (l : List Itm) (vs : List Int) : (keptF l vs).Pairwise ltI := kept_sorted l vs _ (Nat.le_refl _)
theorem strict_name {l : List Itm} (h : l.Pairwise ltI) {x y : Itm} (hx : x ∈ l) (hy : y ∈ l) (hk : x.key = y.key) (hv : x.ver = y.ver) : x = y := by
  obtain ⟨i, hi, rfl⟩ := List.mem_iff_getElem.1 hx
  obtain ⟨j, hj, rfl⟩ := List.mem_iff_getElem.1 hy
  have hp := List.pairwise_iff_getElem.1 h
  rcases Nat.lt_trichotomy i j with hij | rfl | hij
  · have := hp i j hi hj hij; unfold ltI at this; omega
  · rfl
  · have := hp j i hj hi hij; unfold ltI at this; omega
theorem strict_nodup {l : List Itm} (h : l.Pairwise ltI) : l.Nodup := by
  unfold List.Nodup
  exact h.imp fun {a b} h e => by subst e; exact ltI_irrefl h
theorem kept_lat {l : List Itm} {vs : List Int} (hW : ∀ x ∈ l, x.ver ≤ maxI) {k v : Int} (hv : v ∈ maxI :: vs) : latF (keptF l vs) k v = latF l k v := by
  cases hb : latF l k v with
  | none => exact lat_none.2 fun y hy hk => lat_none.1 hb y (kept_sub hW hy) hk
  | some x =>
    have hx := lat_some.1 hb
    have hxK : x ∈ keptF l vs := (kept_iff hW).2 ⟨v, hv, by rw [hx.1]; exact hb⟩
    refine lat_some.2 ⟨hx.1, hx.2.1, ?_, fun y hy hk hyv => hx.2.2.2 y (kept_sub hW hy) hk hyv⟩
    have hc : x ∈ cls (keptF l vs) k x.ver := List.mem_filter.2 ⟨hxK, by simp [hx.1]⟩
    cases hg : (cls (keptF l vs) k x.ver).getLast? with
    | none => rw [List.getLast?_eq_none_iff] at hg; rw [hg] at hc; cases hc
    | some z =>
      have hz := List.mem_filter.1 (List.mem_of_getLast? hg)
      simp only [decide_eq_true_eq] at hz
      rw [strict_name (kept_strict l vs) hz.1 hxK (hz.2.1.trans hx.1.symm) hz.2.2]
/-- The greatest version. -/
def topF (l : List Itm) : Int := l.foldl (fun t x => max t x.ver) (-1)
theorem topF_step {l : List Itm} {i : Nat} (h : i < l.length) : max (topF (l.take i)) (gE l (i : Int)).ver = topF (l.take (i + 1)) := by
  rw [take_snoc h]; simp [topF, List.foldl_append]
theorem topF_ge (l : List Itm) : ∀ x ∈ l, x.ver ≤ topF l := by
  refine snoc_ind (p := fun l => ∀ x ∈ l, x.ver ≤ topF l) (by simp) (fun l y ih x hx => ?_) l
  have e : topF (l ++ [y]) = max (topF l) y.ver := by simp [topF, List.foldl_append]
  rw [e]
  rcases List.mem_append.1 hx with hx | hx
  · have := ih x hx; omega
  · simp at hx; subst hx; omega
theorem topF_le {l : List Itm} {m : Int} (h0 : -1 ≤ m) : (∀ x ∈ l, x.ver ≤ m) → -1 ≤ topF l ∧ topF l ≤ m := by
  refine snoc_ind (p := fun l => (∀ x ∈ l, x.ver ≤ m) → -1 ≤ topF l ∧ topF l ≤ m) (fun _ => ⟨Int.le_refl _, h0⟩) (fun l y ih h => ?_) l
  have e : topF (l ++ [y]) = max (topF l) y.ver := by simp [topF, List.foldl_append]
  have := ih fun x hx => h x (List.mem_append_left _ hx)
  have := h y (by simp)
  omega
theorem lat_big {l : List Itm} {k v : Int} (h : ∀ x ∈ l, x.ver ≤ v) (hW : ∀ x ∈ l, x.ver ≤ maxI) : latF l k v = latF l k maxI := lat_ext fun x => by
  constructor
  · intro hx; exact ⟨hx.1, hW x hx.mem, hx.2.2.1, fun y hy hk _ => hx.2.2.2 y hy hk (h y hy)⟩
  · intro hx; exact ⟨hx.1, h x hx.mem, hx.2.2.1, fun y hy hk _ => hx.2.2.2 y hy hk (hW y hy)⟩
theorem kept_top {l : List Itm} {vs : List Int} (hW : ∀ x ∈ l, x.ver ≤ maxI) {k : Int} : latF (keptF l vs) k (topF l) = latF l k (topF l) := by
  rw [lat_big (topF_ge l) hW, lat_big (fun x hx => topF_ge l x (kept_sub hW hx)) (fun x hx => hW x (kept_sub hW hx))]
  exact kept_lat hW (by simp)
theorem kept_any {l : List Itm} {vs : List Int} (hW : ∀ x ∈ l, x.ver ≤ maxI) {k : Int} {j : Nat} (hj : j < (vs ++ [topF l]).length) : latF l k (gE (vs ++ [topF l]) (j : Int)) = latF (keptF l vs) k (gE (vs ++ [topF l]) (j : Int)) := by
  have hm : gE (vs ++ [topF l]) (j : Int) ∈ vs ++ [topF l] := by
    unfold gE; rw [Int.toNat_natCast, List.getD_eq_getElem?_getD, List.getElem?_eq_getElem hj]; exact List.getElem_mem _
  rcases List.mem_append.1 hm with h | h
  · exact (kept_lat hW (List.mem_cons_of_mem _ h)).symm
  · simp at h; rw [h]; exact (kept_top hW).symm
theorem kept_len {l : List Itm} {vs : List Int} (hW : ∀ x ∈ l, x.ver ≤ maxI) : (keptF l vs).length ≤ l.length :=
  nodup_len_le (strict_nodup (kept_strict l vs)) fun x hx => kept_sub hW hx
theorem kept_kept {l : List Itm} {vs : List Int} (hW : ∀ x ∈ l, x.ver ≤ maxI) : keptF (keptF l vs) vs = keptF l vs :=
  strict_unique (kept_strict _ _) (kept_strict _ _) fun x => by
    rw [kept_iff fun y hy => hW y (kept_sub hW hy), kept_iff hW]
    constructor <;> rintro ⟨v, hv, h⟩
    · exact ⟨v, hv, by rw [← kept_lat hW hv]; exact h⟩
    · exact ⟨v, hv, by rw [kept_lat hW hv]; exact h⟩
theorem kept_nil {l : List Itm} {vs : List Int} (hW : ∀ x ∈ l, x.ver ≤ maxI) (h : (keptF l vs).length = 0) : l.length = 0 := by
  cases l with
  | nil => rfl
  | cons x l =>
    exfalso
    cases hb : latF (x :: l) x.key maxI with
    | none => exact lat_none.1 hb x (by simp) rfl (hW x (by simp))
    | some y =>
      have hy := lat_some.1 hb
      have : y ∈ keptF (x :: l) vs := (kept_iff hW).2 ⟨maxI, by simp, by rw [hy.1]; exact hb⟩
      have h0 := List.length_pos_of_mem this
      omega
theorem opt_eq {α : Type} {a b : Option α} {d : α} (h1 : a.getD d = b.getD d) (h2 : a.isSome = b.isSome) : a = b := by
  cases a <;> cases b <;> simp_all
/-- Without one nothing tells the same. -/
theorem kept_least {l : List Itm} {vs : List Int} (hW : ∀ x ∈ l, x.ver ≤ maxI) {j : Nat} (hj : j < (keptF l vs).length) {n : Nat} (hn : (vs ++ [maxI]).length ≤ n)
    (h : ∀ i, i < n → i < (vs ++ [maxI]).length → latF (keptF l vs) (gE (keptF l vs) (j : Int)).key (gE (vs ++ [maxI]) (i : Int)) = latF ((keptF l vs).take j ++ (keptF l vs).drop (j + 1)) (gE (keptF l vs) (j : Int)).key (gE (vs ++ [maxI]) (i : Int))) : False := by
  have hmem : gE (keptF l vs) (j : Int) ∈ keptF l vs := by
    unfold gE; rw [Int.toNat_natCast, List.getD_eq_getElem?_getD, List.getElem?_eq_getElem hj]; exact List.getElem_mem _
  obtain ⟨v, hv, hl⟩ := (kept_iff hW).1 hmem
  rw [← kept_lat hW hv] at hl
  have hv' : v ∈ vs ++ [maxI] := by rcases List.mem_cons.1 hv with rfl | hv <;> simp [*]
  obtain ⟨i, hi, hiv⟩ := List.mem_iff_getElem.1 hv'
  have hg : gE (vs ++ [maxI]) (i : Int) = v := by
    unfold gE; rw [Int.toNat_natCast, List.getD_eq_getElem?_getD, List.getElem?_eq_getElem hi]; exact hiv
  have h1 := h i (by omega) hi
  rw [hg, hl] at h1
  have h2 := (lat_some.1 h1.symm).mem
  have e : keptF l vs = (keptF l vs).take j ++ gE (keptF l vs) (j : Int) :: (keptF l vs).drop (j + 1) := by
    have := list_at (l := keptF l vs) (i := j) hj
    rwa [← gE_nat] at this
  have hn := strict_nodup (kept_strict l vs)
  rw [e] at hn
  obtain ⟨n1, n2, n3⟩ := List.nodup_append.1 hn
  rcases List.mem_append.1 h2 with h2 | h2
  · exact n3 _ h2 _ (by simp) rfl
  · exact (List.nodup_cons.1 n2).1 h2
/-- How many have a key. -/
def cntK (l : List Itm) (k : Int) : Nat := (l.filter fun x => decide (x.key = k)).length
theorem cntK_yes {l : List Itm} {k : Int} {i : Nat} (h : i < l.length) (hk : (gE l (i : Int)).key = k) : cntK (l.take i) k + 1 = cntK (l.take (i + 1)) k := by
  rw [take_snoc h]; simp [cntK, hk]
theorem cntK_no {l : List Itm} {k : Int} {i : Nat} (h : i < l.length) (hk : ¬ (gE l (i : Int)).key = k) : cntK (l.take i) k = cntK (l.take (i + 1)) k := by
  rw [take_snoc h]; simp [cntK, hk]
theorem cntK_le (l : List Itm) (k : Int) : cntK l k ≤ l.length := List.length_filter_le _ _
theorem kept_few {l : List Itm} {vs : List Int} (hW : ∀ x ∈ l, x.ver ≤ maxI) (k : Int) : cntK (keptF l vs) k ≤ vs.length + 1 := by
  refine Nat.le_trans (nodup_len_le (b := (maxI :: vs).filterMap fun v => latF l k v) ((strict_nodup (kept_strict l vs)).filter _) fun x hx => ?_) (List.length_filterMap_le _ _)
  obtain ⟨h1, h2⟩ := List.mem_filter.1 hx
  simp only [decide_eq_true_eq] at h2
  obtain ⟨v, hv, hl⟩ := (kept_iff hW).1 h1
  exact List.mem_filterMap.2 ⟨v, hv, by rw [← h2]; exact hl⟩
theorem keysF_rise (s : List Itm) : s.Pairwise leI → (keysF s).Pairwise (· < ·) := by
  refine snoc_ind (p := fun s => s.Pairwise leI → (keysF s).Pairwise (· < ·)) (by simp [keysF]) (fun s x ih h => ?_) s
  have e : keysF (s ++ [x]) = keysS (keysF s) x := by unfold keysF; rw [List.foldl_append]; rfl
  obtain ⟨h1, _, h3⟩ := List.pairwise_append.1 h
  have ih := ih h1
  rw [e]
  unfold keysS
  split
  · rename_i hc
    refine List.pairwise_append.2 ⟨ih, by simp, fun k hk z hz => ?_⟩
    simp at hz; subst hz
    obtain ⟨y, hy, rfl⟩ := (keysF_mem k s).1 hk
    have hle := h3 y hy x (by simp)
    have hle' : y.key ≤ x.key := by unfold leI at hle; omega
    rcases Int.lt_or_eq_of_le hle' with hlt | he
    · exact hlt
    · exfalso
      have hpos := List.length_pos_of_mem hk
      rcases hc with hc | hc
      · omega
      · apply hc
        have hlt : (((keysF s).length : Int) - 1).toNat < (keysF s).length := by omega
        have hg : gE (keysF s) (((keysF s).length : Int) - 1) = (keysF s)[(((keysF s).length : Int) - 1).toNat] := by
          unfold gE; rw [List.getD_eq_getElem?_getD, List.getElem?_eq_getElem hlt]; rfl
        have hin : gE (keysF s) (((keysF s).length : Int) - 1) ∈ keysF s := by rw [hg]; exact List.getElem_mem _
        obtain ⟨z, hz, hzk⟩ := (keysF_mem _ s).1 hin
        have hle2 := h3 z hz x (by simp)
        have h5 : gE (keysF s) (((keysF s).length : Int) - 1) ≤ x.key := by rw [← hzk]; unfold leI at hle2; omega
        obtain ⟨i, hi, hik⟩ := List.mem_iff_getElem.1 hk
        have h6 : y.key ≤ gE (keysF s) (((keysF s).length : Int) - 1) := by
          rw [hg, ← hik]
          rcases Nat.lt_or_ge i (((keysF s).length : Int) - 1).toNat with h' | h'
          · exact Int.le_of_lt (List.pairwise_iff_getElem.1 ih i _ hi hlt h')
          · have : i = (((keysF s).length : Int) - 1).toNat := by omega
            subst this; exact Int.le_refl _
        omega
  · exact ih
theorem keysP_nodup (l : List Itm) : (keysP l).Nodup := by
  rw [keys_eq]
  exact (keysF_rise _ (sortF_spec l).2).imp fun {a b} h e => by subst e; exact Int.lt_irrefl _ h
theorem kept_keys {l : List Itm} {vs : List Int} (hW : ∀ x ∈ l, x.ver ≤ maxI) : (keysP (keptF l vs)).length = (keysP l).length := by
  have h : ∀ k, k ∈ keysP (keptF l vs) ↔ k ∈ keysP l := fun k => by
    rw [keysP_mem, keysP_mem]
    constructor
    · rintro ⟨x, hx, hk⟩; exact ⟨x, kept_sub hW hx, hk⟩
    · rintro ⟨x, hx, hk⟩
      cases hb : latF l k maxI with
      | none => exact absurd (hW x hx) (lat_none.1 hb x hx hk)
      | some y =>
        have hy := lat_some.1 hb
        exact ⟨y, (kept_iff hW).2 ⟨maxI, by simp, by rw [hy.1]; exact hb⟩, hy.1⟩
  exact Nat.le_antisymm (nodup_len_le (keysP_nodup _) fun k hk => (h k).1 hk) (nodup_len_le (keysP_nodup _) fun k hk => (h k).2 hk)
theorem strict_sublist : ∀ {a b : List Itm}, a.Pairwise ltI → b.Pairwise ltI → (∀ x ∈ a, x ∈ b) → a.Sublist b
  | [], b, _, _, _ => List.nil_sublist _
  | x :: a, [], _, _, h => absurd (h x (by simp)) (by simp)
  | x :: a, y :: b, ha, hb, h => by
    obtain ⟨ha1, ha2⟩ := List.pairwise_cons.1 ha
    obtain ⟨hb1, hb2⟩ := List.pairwise_cons.1 hb
    by_cases e : x = y
    · subst e
      refine List.Sublist.cons_cons _ (strict_sublist ha2 hb2 fun z hz => ?_)
      rcases List.mem_cons.1 (h z (by simp [hz])) with rfl | hz'
      · exact (ltI_irrefl (ha1 z hz)).elim
      · exact hz'
    · have hx : x ∈ b := (List.mem_cons.1 (h x (by simp))).resolve_left e
      refine List.Sublist.cons _ (strict_sublist ha hb2 fun z hz => ?_)
      rcases List.mem_cons.1 (h z hz) with rfl | hz'
      · rcases List.mem_cons.1 hz with rfl | hz2
        · exact absurd rfl e
        · exact (ltI_asymm (hb1 x hx) (ha1 z hz2)).elim
      · exact hz'
theorem kept_more {l : List Itm} {vs : List Int} {m : Int} (hW : ∀ x ∈ l, x.ver ≤ maxI) : (keptF l vs).Sublist (keptF l (vs ++ [m])) :=
  strict_sublist (kept_strict _ _) (kept_strict _ _) fun x hx => by
    obtain ⟨v, hv, h⟩ := (kept_iff hW).1 hx
    refine (kept_iff hW).2 ⟨v, ?_, h⟩
    rcases List.mem_cons.1 hv with rfl | hv <;> simp [*]
theorem greedy_yes {a b : List Itm} {n i : Nat} (h : (a.drop n).Sublist (b.drop i)) (hn : n < a.length) (hi : i < b.length) (he : gE b (i : Int) = gE a (n : Int)) : (a.drop (n + 1)).Sublist (b.drop (i + 1)) := by
  rw [List.drop_eq_getElem_cons hn, List.drop_eq_getElem_cons hi] at h
  have e : b[i] = a[n] := by simpa [gE, hn, hi] using he
  rw [e] at h
  exact List.cons_sublist_cons.1 h
theorem greedy_no {a b : List Itm} {n i : Nat} (h : (a.drop n).Sublist (b.drop i)) (hn : n < a.length) (hi : i < b.length) (he : ¬ gE b (i : Int) = gE a (n : Int)) : (a.drop n).Sublist (b.drop (i + 1)) := by
  rw [List.drop_eq_getElem_cons hn, List.drop_eq_getElem_cons hi] at h
  have e : a[n] ≠ b[i] := fun e => he (by simp [gE, hn, hi, e])
  rw [List.drop_eq_getElem_cons hn]
  rcases List.sublist_cons_iff.1 h with h | ⟨r, h1, h2⟩
  · exact h
  · exact absurd (List.cons.inj h1).1 e
theorem greedy_end {a b : List Itm} {n i : Nat} (h : (a.drop n).Sublist (b.drop i)) (hn : n ≤ a.length) (hi : ¬ (i < b.length ∧ n < a.length)) : n = a.length := by
  rcases Nat.lt_or_ge i b.length with h1 | h1
  · omega
  · rw [List.drop_eq_nil_of_le h1] at h
    have := congrArg List.length (List.sublist_nil.1 h)
    simp at this; omega

/-! ### Sorted there are the same items -/
theorem sort_sorted (l : List Itm) : sortF (sortF l) = sortF l := (sorted_unique (sortF_spec l).2 (sortF_spec (sortF l)).2 (sortF_spec (sortF l)).1).symm
/-- Data are the places. -/
def DatI (l : List Itm) (n : Nat) : Prop := ∀ i, i < n → i < l.length → (gE l (i : Int)).data = i
theorem datI_step {l : List Itm} {i : Nat} (h : DatI l i) (hi : i < l.length) {x : Itm} (hx : x.data = i) : DatI (l.take i ++ [x] ++ l.drop (i + 1)) (i + 1) := fun j hj hl => by
  have hl1 : (l.take i).length = i := by simp; omega
  rw [List.append_assoc]
  rcases Nat.lt_or_ge j i with h1 | h1
  · have := h j h1 (by omega)
    unfold gE at *
    rw [List.getD_eq_getElem?_getD, Int.toNat_natCast, List.getElem?_append_left (by omega), List.getElem?_take_of_lt h1]
    rw [List.getD_eq_getElem?_getD, Int.toNat_natCast] at this
    exact this
  · have : j = i := by omega
    subst this
    unfold gE
    rw [List.getD_eq_getElem?_getD, Int.toNat_natCast, List.getElem?_append_right (by omega), hl1]
    simp [hx]
theorem datI_rise {l : List Itm} (h : DatI l l.length) : l.Pairwise (fun x y => x.data < y.data) := List.pairwise_iff_getElem.2 fun i j hi hj hij => by
  have h1 := h i hi hi
  have h2 := h j hj hj
  simp [gE, hi, hj] at h1 h2
  omega
theorem sort_data {l : List Itm} (h : DatI l l.length) : (sortF l).Pairwise (fun x y => leI x y ∧ (x.key = y.key → x.ver = y.ver → x.data < y.data)) := by
  obtain ⟨hc, hs⟩ := sortF_spec l
  refine hs.and (List.pairwise_iff_forall_sublist.2 fun {a b} hab hk hv => ?_)
  have h1 : [a, b].Sublist (cls (sortF l) b.key b.ver) := by
    have := hab.filter (fun x => decide (x.key = b.key ∧ x.ver = b.ver))
    have e : [a, b].filter (fun x => decide (x.key = b.key ∧ x.ver = b.ver)) = [a, b] := by simp [hk, hv]
    rwa [e] at this
  rw [show cls (sortF l) b.key b.ver = cls l b.key b.ver from hc _ _] at h1
  have h2 := h1.trans List.filter_sublist
  have := (datI_rise h).sublist h2
  simpa using this
/-- All data, added. -/
def sumD (l : List Itm) : Int := l.foldr (fun x n => x.data + n) 0
theorem sumD_perm {a b : List Itm} (h : a.Perm b) : sumD a = sumD b := by
  induction h with
  | nil => rfl
  | cons x _ ih => simp only [sumD, List.foldr_cons] at *; omega
  | swap x y l => simp only [sumD, List.foldr_cons]; omega
  | trans _ _ ih1 ih2 => exact ih1.trans ih2
theorem sumD_app (a b : List Itm) : sumD (a ++ b) = sumD a + sumD b := by
  induction a with
  | nil => simp [sumD]
  | cons x a ih => simp only [sumD, List.cons_append, List.foldr_cons] at *; omega
theorem sumD_step {l : List Itm} {i : Nat} (h : i < l.length) : sumD (l.take i) + (gE l (i : Int)).data = sumD (l.take (i + 1)) := by
  rw [take_snoc h, sumD_app]; simp [sumD]
theorem sumD_places {l : List Itm} (h : DatI l l.length) : ∀ n, n ≤ l.length → 2 * sumD (l.take n) = (n : Int) * ((n : Int) - 1)
  | 0, _ => by simp [sumD]
  | n + 1, hn => by
    have ih := sumD_places h n (by omega)
    rw [← sumD_step (by omega), h n (by omega) (by omega)]
    have : ((n + 1 : Nat) : Int) * (((n + 1 : Nat) : Int) - 1) = (n : Int) * ((n : Int) - 1) + 2 * n := by
      rw [show (((n + 1 : Nat) : Int) - 1) = n by omega, show ((n + 1 : Nat) : Int) = (n : Int) + 1 by omega, Int.add_mul, Int.mul_sub]; omega
    omega
theorem sum_sorted {l : List Itm} (h : DatI l l.length) : 2 * sumD (sortF l) = (l.length : Int) * ((l.length : Int) - 1) := by
  rw [sumD_perm (sortF_spec l).1.perm]
  have := sumD_places h l.length (Nat.le_refl _)
  rwa [List.take_length] at this
theorem datI_bd {l : List Itm} (h : DatI l l.length) {i : Nat} (hi : i < (sortF l).length) : 0 ≤ (gE (sortF l) (i : Int)).data ∧ (gE (sortF l) (i : Int)).data < l.length := by
  have hm : gE (sortF l) (i : Int) ∈ l := (sortF_spec l).1.perm.mem_iff.1 (by rw [gE_nat, gN_getElem hi]; exact List.getElem_mem _)
  obtain ⟨j, hj, e⟩ := List.mem_iff_getElem.1 hm
  have := h j hj hj
  simp [gE_nat, gN_getElem hj] at this
  rw [← e, this]; omega
theorem sumD_bd {l : List Itm} (h : DatI l l.length) (h40 : l.length ≤ 40) : ∀ n, n ≤ (sortF l).length → 0 ≤ sumD ((sortF l).take n) ∧ sumD ((sortF l).take n) ≤ 40 * (n : Int)
  | 0, _ => by simp [sumD]
  | n + 1, hn => by
    have ih := sumD_bd h h40 n (by omega)
    have h1 := datI_bd h (i := n) (by omega)
    rw [← sumD_step (by omega)]
    omega
theorem less_of {K : List Itm} {j : Nat} : [] ++ (K.drop 0).take (j - 0) ++ (K.drop (j + 1)).take (K.length - (j + 1)) = K.take j ++ K.drop (j + 1) := by
  rw [List.take_of_length_le (l := K.drop (j + 1)) (by simp)]; simp
theorem put_of {K : List Itm} {j : Nat} {x : Itm} : [] ++ (K.drop 0).take (j - 0) ++ [x] ++ (K.drop (j + 1)).take (K.length - (j + 1)) = K.take j ++ [x] ++ K.drop (j + 1) := by
  rw [List.take_of_length_le (l := K.drop (j + 1)) (by simp)]; simp
theorem least_step {K less : List Itm} {k : Int} {w : List Int} {i : Nat} (h : ∀ i', i' < i → i' < w.length → latF K k (gE w (i' : Int)) = latF less k (gE w (i' : Int))) (hi : latF K k (gE w (i : Int)) = latF less k (gE w (i : Int))) : ∀ i', i' < i + 1 → i' < w.length → latF K k (gE w (i' : Int)) = latF less k (gE w (i' : Int)) := fun i' h1 h2 => by
  rcases Nat.lt_or_ge i' i with h3 | h3
  · exact h i' h3 h2
  · have : i' = i := by omega
    subst this; exact hi
theorem sorts_at {l : List Itm} (h : DatI l l.length) {i : Nat} (h1 : 1 ≤ i) (hi : i < (sortF l).length) : leI (gE (sortF l) ((i : Int) - 1)) (gE (sortF l) (i : Int)) ∧ ((gE (sortF l) ((i : Int) - 1)).key = (gE (sortF l) (i : Int)).key → (gE (sortF l) ((i : Int) - 1)).ver = (gE (sortF l) (i : Int)).ver → (gE (sortF l) ((i : Int) - 1)).data < (gE (sortF l) (i : Int)).data) := by
  have e : ((i : Int) - 1) = ((i - 1 : Nat) : Int) := by omega
  rw [e, gE_nat, gE_nat, gN_getElem (by omega), gN_getElem hi]
  exact List.pairwise_iff_getElem.1 (sort_data h) (i - 1) i (by omega) hi (by omega)
end Go.Proofs.Ytejpanipdjknjaa
