/- What is kept: the program's map and the document's list are one: no program in sight. -/
import Derived.Test.YtejpanipdjknjaaKeyP
import Derived.Test.YtejpanipdjknjaaEngG
namespace Go.Proofs.Ytejpanipdjknjaa
open Go Go.RowKit
set_option linter.unusedVariables false
abbrev maxI : Int := 9223372036854775807
theorem snoc_ind {α : Type} {p : List α → Prop} (h0 : p []) (h1 : ∀ l x, p l → p (l ++ [x])) (l : List α) : p l := by
  have : ∀ l : List α, p l.reverse := fun l => by
    induction l with
    | nil => exact h0
    | cons x l ih => rw [List.reverse_cons]; exact h1 _ _ ih
  have h := this l.reverse
  rwa [List.reverse_reverse] at h
/-- The items of a name. -/
abbrev cls (l : List Itm) (k v : Int) : List Itm := l.filter (fun x => decide (x.key = k ∧ x.ver = v))
/-- x is the latest item of a key up to a version. -/
def LatC (l : List Itm) (k v : Int) (x : Itm) : Prop := x.key = k ∧ x.ver ≤ v ∧ (cls l k x.ver).getLast? = some x ∧ ∀ y ∈ l, y.key = k → y.ver ≤ v → y.ver ≤ x.ver
theorem LatC.mem {l : List Itm} {k v : Int} {x : Itm} (h : LatC l k v x) : x ∈ l := (List.mem_filter.1 (List.mem_of_getLast? h.2.2.1)).1
theorem LatC.uniq {l : List Itm} {k v v' : Int} {x y : Itm} (h : LatC l k v x) (h' : LatC l k v' y) (e : x.ver = y.ver) : x = y := by
  have h1 := h.2.2.1
  rw [e, h'.2.2.1] at h1
  exact (Option.some.inj h1).symm
theorem lat_snoc (l : List Itm) (x : Itm) (k v : Int) : latF (l ++ [x]) k v = if latB (latF l k v) x k v then some x else latF l k v := by
  unfold latF; rw [List.foldl_append]; rfl
theorem lat_inv (k v : Int) (l : List Itm) : (∀ x, latF l k v = some x → LatC l k v x) ∧ (latF l k v = none → ∀ y ∈ l, y.key = k → ¬ y.ver ≤ v) := by
  refine snoc_ind (p := fun l => (∀ x, latF l k v = some x → LatC l k v x) ∧ (latF l k v = none → ∀ y ∈ l, y.key = k → ¬ y.ver ≤ v)) ⟨fun x h => (by simp [latF] at h), fun _ y h => (by simp at h)⟩ (fun l x ih => ?_) l
  obtain ⟨ih1, ih2⟩ := ih
  rw [lat_snoc]
  cases hb : latF l k v with
  | none =>
    have h2 := ih2 hb
    by_cases hc : latB none x k v = true
    · rw [if_pos hc]
      have hc' := hc
      simp only [latB, Bool.and_true, Bool.and_eq_true, decide_eq_true_eq] at hc'
      refine ⟨fun y hy => ?_, fun h => by cases h⟩
      cases hy
      refine ⟨hc'.1, hc'.2, ?_, fun y hy hk hv => ?_⟩
      · simp only [cls, List.filter_append]; simp [hc'.1]
      · rcases List.mem_append.1 hy with hy | hy
        · exact absurd hv (h2 y hy hk)
        · simp at hy; subst hy; exact Int.le_refl _
    · rw [if_neg hc]
      refine ⟨fun y hy => (by cases hy), fun _ y hy hk hv => ?_⟩
      rcases List.mem_append.1 hy with hy | hy
      · exact h2 y hy hk hv
      · simp at hy; subst hy
        exact hc (by simp [latB, hk, hv])
  | some z =>
    have h1 := ih1 z hb
    by_cases hc : latB (some z) x k v = true
    · rw [if_pos hc]
      have hc' := hc
      simp only [latB, Bool.and_eq_true, decide_eq_true_eq] at hc'
      refine ⟨fun y hy => ?_, fun h => by cases h⟩
      cases hy
      refine ⟨hc'.1.1, hc'.1.2, ?_, fun y hy hk hv => ?_⟩
      · simp only [cls, List.filter_append]; simp [hc'.1.1]
      · rcases List.mem_append.1 hy with hy | hy
        · have := h1.2.2.2 y hy hk hv; omega
        · simp at hy; subst hy; exact Int.le_refl _
    · rw [if_neg hc]
      refine ⟨fun y hy => ?_, fun h => by cases h⟩
      cases hy
      refine ⟨h1.1, h1.2.1, ?_, fun y hy hk hv => ?_⟩
      · have : cls [x] k z.ver = [] := by
          simp only [cls, List.filter_cons, List.filter_nil]
          rw [if_neg]
          intro h
          simp only [decide_eq_true_eq] at h
          exact hc (by simp only [latB, Bool.and_eq_true, decide_eq_true_eq]; have := h1.2.1; exact ⟨⟨h.1, by omega⟩, by omega⟩)
        simp only [cls, List.filter_append] at this ⊢
        rw [this, List.append_nil]; exact h1.2.2.1
      · rcases List.mem_append.1 hy with hy | hy
        · exact h1.2.2.2 y hy hk hv
        · simp at hy; subst hy
          apply Classical.byContradiction; intro h
          exact hc (by simp only [latB, Bool.and_eq_true, decide_eq_true_eq]; exact ⟨⟨hk, hv⟩, by omega⟩)
theorem lat_some {l : List Itm} {k v : Int} {x : Itm} : latF l k v = some x ↔ LatC l k v x := by
  refine ⟨(lat_inv k v l).1 x, fun h => ?_⟩
  cases hb : latF l k v with
  | none => exact absurd h.2.1 ((lat_inv k v l).2 hb x h.mem h.1)
  | some z =>
    have hz := (lat_inv k v l).1 z hb
    have h1 := h.2.2.2 z hz.mem hz.1 hz.2.1
    have h2 := hz.2.2.2 x h.mem h.1 h.2.1
    rw [h.uniq hz (by omega)]
theorem lat_none {l : List Itm} {k v : Int} : latF l k v = none ↔ ∀ y ∈ l, y.key = k → ¬ y.ver ≤ v := by
  refine ⟨(lat_inv k v l).2, fun h => ?_⟩
  cases hb : latF l k v with
  | none => rfl
  | some z => have hz := (lat_inv k v l).1 z hb; exact absurd hz.2.1 (h z hz.mem hz.1)
theorem lat_ext {l l' : List Itm} {k v v' : Int} (h : ∀ x, LatC l k v x ↔ LatC l' k v' x) : latF l k v = latF l' k v' := by
  cases hb : latF l k v with
  | none =>
    cases hc : latF l' k v' with
    | none => rfl
    | some z => have := lat_some.2 ((h z).2 (lat_some.1 hc)); rw [hb] at this; cases this
  | some z => exact (lat_some.2 ((h z).1 (lat_some.1 hb))).symm
theorem lat_cls {l l' : List Itm} (hc : Cls l l') (k v : Int) : latF l' k v = latF l k v := lat_ext fun x => by
  unfold LatC
  rw [show cls l' k x.ver = cls l k x.ver from hc k x.ver]
  simp only [hc.perm.mem_iff]

/-! ### What the document keeps -/
theorem keepF_mem {s : List Itm} {vs : List Int} {x : Itm} : ∀ {n : Nat}, x ∈ keepF s vs n ↔ ∃ i, i < n ∧ keepB s vs i = true ∧ gE s (i : Int) = x
  | 0 => by simp [keepF]
  | n + 1 => by
    cases hb : keepB s vs n with
    | true =>
      rw [keepF_yes hb, List.mem_append, keepF_mem (n := n)]
      constructor
      · rintro (⟨i, h1, h2⟩ | h)
        · exact ⟨i, by omega, h2⟩
        · simp at h; exact ⟨n, by omega, hb, h.symm⟩
      · rintro ⟨i, h1, h2, h3⟩
        by_cases e : i = n
        · subst e; right; simp [h3]
        · exact .inl ⟨i, by omega, h2, h3⟩
    | false =>
      rw [keepF_no hb, keepF_mem (n := n)]
      constructor
      · rintro ⟨i, h1, h2⟩; exact ⟨i, by omega, h2⟩
      · rintro ⟨i, h1, h2, h3⟩
        by_cases e : i = n
        · subst e; rw [hb] at h2; cases h2
        · exact ⟨i, by omega, h2, h3⟩
theorem keepB_iff {s : List Itm} {vs : List Int} {i : Nat} : keepB s vs i = true ↔ lastB s i = true ∨ ∃ v ∈ vs, (gE s (i : Int)).ver ≤ v ∧ (lastB s i = true ∨ v < (gE s ((i : Int) + 1)).ver) := by
  unfold keepB
  have : ∀ (vs : List Int) (b : Bool), vs.foldl (fun b v => b || (decide ((gE s (i : Int)).ver ≤ v) && (lastB s i || decide (v < (gE s ((i : Int) + 1)).ver)))) b = true ↔ b = true ∨ ∃ v ∈ vs, (gE s (i : Int)).ver ≤ v ∧ (lastB s i = true ∨ v < (gE s ((i : Int) + 1)).ver) := by
    intro vs
    induction vs with
    | nil => simp
    | cons w vs ih =>
      intro b
      rw [List.foldl_cons, ih]
      simp only [Bool.or_eq_true, Bool.and_eq_true, decide_eq_true_eq, List.mem_cons, exists_eq_or_imp]
      exact or_assoc
  exact this vs _
theorem gE_at {α : Type} [Inhabited α] {a b : List α} {x : α} : gE (a ++ x :: b) (a.length : Int) = x := by
  unfold gE; simp
theorem gE_at1 {α : Type} [Inhabited α] {a b : List α} {x y : α} : gE (a ++ x :: y :: b) ((a.length : Int) + 1) = y := by
  unfold gE
  have : ((a.length : Int) + 1).toNat = a.length + 1 := by omega
  rw [this, List.getD_eq_getElem?_getD, List.getElem?_append_right (by omega)]; simp
theorem split_at {s : List Itm} {i : Nat} (h : i < s.length) : ∃ a b, s = a ++ gE s (i : Int) :: b ∧ a.length = i := by
  refine ⟨s.take i, s.drop (i + 1), ?_, by simp; omega⟩
  have := list_at (l := s) (i := i) h
  rwa [← gE_nat] at this
theorem at_lat {a b : List Itm} {x : Itm} {v : Int} (hs : (a ++ x :: b).Pairwise leI) (hv : x.ver ≤ v) (hb : ∀ y ∈ b, y.key = x.key → v < y.ver) : LatC (a ++ x :: b) x.key v x := by
  refine ⟨rfl, hv, ?_, fun y hy hk hyv => ?_⟩
  · have e : cls b x.key x.ver = [] := by
      rw [cls, List.filter_eq_nil_iff]
      intro y hy h
      simp only [decide_eq_true_eq] at h
      have := hb y hy h.1
      omega
    simp only [cls, List.filter_append, List.filter_cons] at e ⊢
    rw [e]; simp
  · rcases List.mem_append.1 hy with hy | hy
    · have := (List.pairwise_append.1 hs).2.2 y hy x (by simp)
      unfold leI at this; omega
    · rcases List.mem_cons.1 hy with rfl | hy
      · exact Int.le_refl _
      · have := hb y hy hk; omega
theorem last_split {p : Itm → Bool} {x : Itm} (l : List Itm) : (l.filter p).getLast? = some x → ∃ a b, l = a ++ x :: b ∧ ∀ y ∈ b, p y = false := by
  refine snoc_ind (p := fun l => (l.filter p).getLast? = some x → ∃ a b, l = a ++ x :: b ∧ ∀ y ∈ b, p y = false) (by simp) (fun l z ih h => ?_) l
  rw [List.filter_append] at h
  cases hz : p z with
  | true =>
    simp only [List.filter_cons, hz, if_true, List.filter_nil] at h
    rw [List.getLast?_append] at h
    simp at h
    subst h
    exact ⟨l, [], rfl, by simp⟩
  | false =>
    simp only [List.filter_cons, hz, List.filter_nil, Bool.false_eq_true, if_false, List.append_nil] at h
    obtain ⟨a, b, rfl, hb⟩ := ih h
    refine ⟨a, b ++ [z], by simp, fun y hy => ?_⟩
    rcases List.mem_append.1 hy with hy | hy
    · exact hb y hy
    · simp at hy; subst hy; exact hz
/-- What the document keeps: the latest items. -/
abbrev keptF (l : List Itm) (vs : List Int) : List Itm := keepF (sortF l) vs (sortF l).length
theorem kept_iff {l : List Itm} {vs : List Int} (hW : ∀ x ∈ l, x.ver ≤ maxI) {x : Itm} : x ∈ keptF l vs ↔ ∃ v ∈ maxI :: vs, latF l x.key v = some x := by
  obtain ⟨hc, hs⟩ := sortF_spec l
  have hmem : ∀ {y}, y ∈ sortF l ↔ y ∈ l := fun {y} => hc.perm.mem_iff
  unfold keptF
  rw [keepF_mem]
  constructor
  · rintro ⟨i, hi, hb, rfl⟩
    obtain ⟨a, b, e, ha⟩ := split_at hi
    have hx : gE (sortF l) (i : Int) ∈ l := hmem.1 (by rw [gE_nat, gN_getElem hi]; exact List.getElem_mem _)
    rw [keepB_iff] at hb
    have hs' := hs
    rw [e] at hs'
    have key : ∀ v, (gE (sortF l) (i : Int)).ver ≤ v → (∀ y ∈ b, y.key = (gE (sortF l) (i : Int)).key → v < y.ver) → latF l (gE (sortF l) (i : Int)).key v = some (gE (sortF l) (i : Int)) := fun v h1 h2 => by
      rw [← lat_cls hc]
      have := at_lat hs' h1 h2
      rw [← e] at this
      exact lat_some.2 this
    have hlast : lastB (sortF l) i = true → latF l (gE (sortF l) (i : Int)).key maxI = some (gE (sortF l) (i : Int)) := fun hl => by
      refine key _ (hW _ hx) fun y hy hk => ?_
      exfalso
      cases b with
      | nil => simp at hy
      | cons z b =>
        have hz : gE (sortF l) ((i : Int) + 1) = z := by
          rw [e, ← ha]; exact gE_at1
        simp only [lastB, Bool.or_eq_true, decide_eq_true_eq, Bool.not_eq_true', decide_eq_false_iff_not, hz] at hl
        have hlen := congrArg List.length e
        simp at hlen
        rcases hl with hl | hl
        · omega
        · have h1 := (List.pairwise_append.1 hs').2.1
          have h2 := (List.pairwise_cons.1 h1).1 z (by simp)
          have h3 := (List.pairwise_cons.1 h1).1 y hy
          have h4 : y = z ∨ leI z y := by
            rcases List.mem_cons.1 hy with rfl | hy
            · exact .inl rfl
            · exact .inr ((List.pairwise_cons.1 (List.pairwise_cons.1 h1).2).1 y hy)
          unfold leI at h2 h3 h4
          rcases h4 with rfl | h4
          · exact hl hk
          · omega
    rcases hb with hl | ⟨v, hv, h1, hl | h2⟩
    · exact ⟨maxI, by simp, hlast hl⟩
    · exact ⟨maxI, by simp, hlast hl⟩
    · by_cases hl : lastB (sortF l) i = true
      · exact ⟨maxI, by simp, hlast hl⟩
      · refine ⟨v, by simp [hv], key v h1 fun y hy hk => ?_⟩
        cases b with
        | nil => simp at hy
        | cons z b =>
          have hz : gE (sortF l) ((i : Int) + 1) = z := by
            rw [e, ← ha]; exact gE_at1
          rw [hz] at h2
          have h1' := (List.pairwise_append.1 hs').2.1
          have h2' := (List.pairwise_cons.1 h1').1 z (by simp)
          rcases List.mem_cons.1 hy with rfl | hy
          · exact h2
          · have h4 := (List.pairwise_cons.1 (List.pairwise_cons.1 h1').2).1 y hy
            unfold leI at h2' h4
            simp only [lastB, Bool.or_eq_true, decide_eq_true_eq, Bool.not_eq_true', decide_eq_false_iff_not, hz, not_or, Classical.not_not] at hl
            omega
  · rintro ⟨v, hv, hlat⟩
    rw [← lat_cls hc] at hlat
    have hL := lat_some.1 hlat
    obtain ⟨a, b, e, hb⟩ := last_split _ hL.2.2.1
    have hs' := hs
    rw [e] at hs'
    have hlen := congrArg List.length e
    simp at hlen
    have hgi : gE (sortF l) (a.length : Int) = x := by rw [e]; exact gE_at
    refine ⟨a.length, by omega, ?_, hgi⟩
    rw [keepB_iff, hgi]
    cases b with
    | nil => left; simp only [lastB, Bool.or_eq_true, decide_eq_true_eq]; simp at hlen; omega
    | cons y b =>
      have hy : gE (sortF l) ((a.length : Int) + 1) = y := by rw [e]; exact gE_at1
      by_cases hk : y.key = x.key
      · right
        have h1 := (List.pairwise_cons.1 (List.pairwise_append.1 hs').2.1).1 y (by simp)
        have h2 := hb y (by simp)
        simp only [decide_eq_false_iff_not] at h2
        have hyl : y ∈ sortF l := by rw [e]; simp
        have h3 := hL.2.2.2 y hyl hk
        unfold leI at h1
        have h4 := hW y (hmem.1 hyl)
        rcases List.mem_cons.1 hv with rfl | hv
        · have := h3 h4; omega
        · refine ⟨v, hv, hL.2.1, .inr ?_⟩
          rw [hy]
          apply Classical.byContradiction; intro h
          have := h3 (by omega)
          omega
      · left
        simp only [lastB, Bool.or_eq_true, decide_eq_true_eq, Bool.not_eq_true', decide_eq_false_iff_not, hy, hgi]
        exact .inr hk
theorem ltI_irrefl {x : Itm} (h : ltI x x) : False := by unfold ltI at h; omega
theorem ltI_asymm {x y : Itm} (h : ltI x y) (h' : ltI y x) : False := by unfold ltI at *; omega
theorem kept_sorted (l : List Itm) (vs : List Int) : ∀ n, n ≤ (sortF l).length → (keepF (sortF l) vs n).Pairwise ltI
  | 0, _ => by simp [keepF]
  | n + 1, hn => by
    have ih := kept_sorted l vs n (by omega)
    cases hb : keepB (sortF l) vs n with
    | false => rw [keepF_no hb]; exact ih
    | true =>
      rw [keepF_yes hb]
      refine List.pairwise_append.2 ⟨ih, by simp, fun x hx y hy => ?_⟩
      simp at hy; subst hy
      obtain ⟨i, hi, hbi, rfl⟩ := keepF_mem.1 hx
      have hs := List.pairwise_iff_getElem.1 (sortF_spec l).2
      have g : ∀ j, j < (sortF l).length → gE (sortF l) (j : Int) = (sortF l)[j]! := fun j hj => by simp [gE, hj]
      have h1 : leI (gE (sortF l) (i : Int)) (gE (sortF l) (n : Int)) := by
        have := hs i n (by omega) (by omega) hi
        rw [gE_nat, gE_nat, gN_getElem (by omega), gN_getElem (by omega)]; exact this
      apply Classical.byContradiction; intro hno
      have e1 : gE (sortF l) ((i : Int) + 1) = gN (sortF l) (i + 1) := by rw [← gE_nat]; congr 1
      have h2 : leI (gE (sortF l) (i : Int)) (gE (sortF l) ((i : Int) + 1)) := by
        have := hs i (i + 1) (by omega) (by omega) (by omega)
        rw [e1, gE_nat, gN_getElem (by omega), gN_getElem (by omega)]; exact this
      have h3 : leI (gE (sortF l) ((i : Int) + 1)) (gE (sortF l) (n : Int)) := by
        rw [e1, gE_nat]
        rcases Nat.lt_or_ge (i + 1) n with h | h
        · have := hs (i + 1) n (by omega) (by omega) h
          rw [gN_getElem (by omega), gN_getElem (by omega)]; exact this
        · have : i + 1 = n := by omega
          rw [this]; exact le_refl' _
      have hk : (gE (sortF l) ((i : Int) + 1)).key = (gE (sortF l) (i : Int)).key ∧ (gE (sortF l) ((i : Int) + 1)).ver = (gE (sortF l) (i : Int)).ver := by
        unfold leI at h1 h2 h3; unfold ltI at hno; omega
      have hl : ¬ lastB (sortF l) i = true := by
        simp only [lastB, Bool.or_eq_true, decide_eq_true_eq, Bool.not_eq_true', decide_eq_false_iff_not, not_or, Classical.not_not]
        exact ⟨by omega, hk.1⟩
      rcases keepB_iff.1 hbi with h | ⟨v, _, h4, h | h⟩
      · exact hl h
      · exact hl h
      · omega
theorem strict_unique : ∀ {s t : List Itm}, s.Pairwise ltI → t.Pairwise ltI → (∀ x, x ∈ s ↔ x ∈ t) → s = t
  | [], [], _, _, _ => rfl
  | [], y :: t, _, _, h => absurd ((h y).2 (by simp)) (by simp)
  | x :: s, [], _, _, h => absurd ((h x).1 (by simp)) (by simp)
  | x :: s, y :: t, hs, ht, h => by
    obtain ⟨hs1, hs2⟩ := List.pairwise_cons.1 hs
    obtain ⟨ht1, ht2⟩ := List.pairwise_cons.1 ht
    have e : x = y := by
      rcases List.mem_cons.1 ((h x).1 (by simp)) with e | h1
      · exact e
      · rcases List.mem_cons.1 ((h y).2 (by simp)) with e | h2
        · exact e.symm
        · exact (ltI_asymm (ht1 x h1) (hs1 y h2)).elim
    subst e
    rw [strict_unique hs2 ht2 fun z => ?_]
    constructor
    · intro hz
      rcases List.mem_cons.1 ((h z).1 (by simp [hz])) with rfl | h1
      · exact (ltI_irrefl (hs1 z hz)).elim
      · exact h1
    · intro hz
      rcases List.mem_cons.1 ((h z).2 (by simp [hz])) with rfl | h1
      · exact (ltI_irrefl (ht1 z hz)).elim
      · exact h1

/-! ### What the program keeps -/
def stepM (l : List Itm) (k : Int) (m : List ((Int × Int) × Itm)) (v : Int) : List ((Int × Int) × Itm) := match latF l k v with
  | some x => aput m (k, x.ver) x
  | none => m
def mapV (l : List Itm) (k : Int) (vs : List Int) (m : List ((Int × Int) × Itm)) : List ((Int × Int) × Itm) := vs.foldl (stepM l k) m
def mapK (l : List Itm) (vs ks : List Int) : List ((Int × Int) × Itm) := ks.foldl (fun m k => mapV l k (maxI :: vs) m) []
theorem keysP_len (l : List Itm) : (keysP l).length ≤ l.length := by
  unfold keysP
  have := compact_le (sortZ (l.map (·.key)))
  rw [sortZ_length, List.length_map] at this
  exact this
/-- Entries by their names, each the latest one of its key at some version. -/
structure MapI (l : List Itm) (m : List ((Int × Int) × Itm)) : Prop where
  lat : ∀ e ∈ m, e.1 = (e.2.key, e.2.ver) ∧ ∃ v, LatC l e.2.key v e.2
  nodup : (m.map (·.1)).Nodup
theorem aidx_none {κ α : Type} [DecidableEq κ] : ∀ {l : List (κ × α)} {k : κ} {i : Nat}, aidx l k i = none → k ∉ l.map (·.1)
  | [], _, _, _ => by simp
  | x :: r, k, i, h => by
    simp only [aidx] at h
    split at h
    · cases h
    · rename_i hne
      have := aidx_none h
      simp only [List.map_cons, List.mem_cons, not_or]
      exact ⟨hne, this⟩
theorem step_lat {l : List Itm} {k v : Int} {m : List ((Int × Int) × Itm)} (hm : MapI l m) : MapI l (stepM l k m v) ∧ (∀ e ∈ m, e ∈ stepM l k m v) ∧ (∀ e ∈ stepM l k m v, e ∈ m ∨ latF l k v = some e.2) ∧ (∀ x, latF l k v = some x → x ∈ (stepM l k m v).map (·.2)) := by
  unfold stepM
  cases hl : latF l k v with
  | none => exact ⟨hm, fun _ h => h, fun _ h => .inl h, fun x h => by cases h⟩
  | some x =>
    have hL := lat_some.1 hl
    show MapI l (aput m (k, x.ver) x) ∧ (∀ e ∈ m, e ∈ aput m (k, x.ver) x) ∧ (∀ e ∈ aput m (k, x.ver) x, _) ∧ (∀ x', _ → x' ∈ (aput m (k, x.ver) x).map (·.2))
    unfold aput
    cases hi : aidx m (k, x.ver) 0 with
    | none =>
      refine ⟨⟨fun e he => ?_, ?_⟩, fun e he => List.mem_append_left _ he, fun e he => ?_, fun y hy => ?_⟩
      · rcases List.mem_append.1 he with he | he
        · exact hm.lat e he
        · simp at he; subst he; exact ⟨by simp [hL.1], v, by have := hL.1; subst this; exact hL⟩
      · simp only [List.map_append, List.map_cons, List.map_nil]
        exact List.nodup_append.2 ⟨hm.nodup, by simp, fun a ha b hb e => by simp at hb; subst hb; subst e; exact aidx_none hi ha⟩
      · rcases List.mem_append.1 he with he | he
        · exact .inl he
        · simp at he; subst he; exact .inr rfl
      · cases hy; simp
    | some jv =>
      obtain ⟨j, u⟩ := jv
      obtain ⟨h1, h2⟩ := aidx_spec m (k, x.ver) 0 j u hi
      rw [Nat.sub_zero] at h2
      obtain ⟨h3, v', h4⟩ := hm.lat _ (List.mem_of_getElem? h2)
      simp only [Prod.mk.injEq] at h3
      have e : x = u := by
        have h5 := hL
        rw [h3.1] at h5
        exact h5.uniq h4 h3.2
      have e2 : m.set j ((k, x.ver), x) = m := by
        subst e
        apply List.ext_getElem?
        intro i
        rw [List.getElem?_set]
        split
        · rename_i hij; subst hij
          have := (List.getElem?_eq_some_iff.1 h2).1
          simp [this]
          exact (List.getElem?_eq_some_iff.1 h2).2.symm
        · rfl
      simp only [e2]
      exact ⟨hm, fun _ h => h, fun _ h => .inl h, fun y hy => by cases hy; exact List.mem_map.2 ⟨_, List.mem_of_getElem? h2, e.symm⟩⟩
theorem mapV_lat {l : List Itm} {k : Int} : ∀ {vs : List Int} {m : List ((Int × Int) × Itm)}, MapI l m → MapI l (mapV l k vs m) ∧ (∀ e ∈ m, e ∈ mapV l k vs m) ∧ (∀ e ∈ mapV l k vs m, e ∈ m ∨ ∃ v ∈ vs, latF l k v = some e.2) ∧ (∀ v ∈ vs, ∀ x, latF l k v = some x → x ∈ (mapV l k vs m).map (·.2))
  | [], m, hm => ⟨hm, fun _ h => h, fun _ h => .inl h, fun v h => by cases h⟩
  | v :: vs, m, hm => by
    obtain ⟨s1, s2, s3, s4⟩ := step_lat (k := k) (v := v) hm
    obtain ⟨r1, r2, r3, r4⟩ := mapV_lat (k := k) (vs := vs) s1
    refine ⟨r1, fun e he => r2 e (s2 e he), fun e he => ?_, fun w hw x hx => ?_⟩
    · rcases r3 e he with h | ⟨w, hw, h⟩
      · rcases s3 e h with h | h
        · exact .inl h
        · exact .inr ⟨v, by simp, h⟩
      · exact .inr ⟨w, by simp [hw], h⟩
    · rcases List.mem_cons.1 hw with rfl | hw
      · obtain ⟨e, he, rfl⟩ := List.mem_map.1 (s4 x hx)
        exact List.mem_map.2 ⟨e, r2 e he, rfl⟩
      · exact r4 w hw x hx
theorem mapKs_lat {l : List Itm} {vs : List Int} : ∀ {ks : List Int} {m : List ((Int × Int) × Itm)}, MapI l m → MapI l (ks.foldl (fun m k => mapV l k (maxI :: vs) m) m) ∧ (∀ e ∈ m, e ∈ ks.foldl (fun m k => mapV l k (maxI :: vs) m) m) ∧
    (∀ e ∈ ks.foldl (fun m k => mapV l k (maxI :: vs) m) m, e ∈ m ∨ ∃ k ∈ ks, ∃ v ∈ maxI :: vs, latF l k v = some e.2) ∧ (∀ k ∈ ks, ∀ v ∈ maxI :: vs, ∀ x, latF l k v = some x → x ∈ (ks.foldl (fun m k => mapV l k (maxI :: vs) m) m).map (·.2))
  | [], m, hm => ⟨hm, fun _ h => h, fun _ h => .inl h, fun v h => by cases h⟩
  | k :: ks, m, hm => by
    obtain ⟨s1, s2, s3, s4⟩ := mapV_lat (k := k) (vs := maxI :: vs) hm
    obtain ⟨r1, r2, r3, r4⟩ := mapKs_lat (vs := vs) (ks := ks) s1
    refine ⟨r1, fun e he => r2 e (s2 e he), fun e he => ?_, fun k' hk v hv x hx => ?_⟩
    · rcases r3 e he with h | ⟨k', hk', h⟩
      · rcases s3 e h with h | h
        · exact .inl h
        · exact .inr ⟨k, by simp, h⟩
      · exact .inr ⟨k', by simp [hk'], h⟩
    · rcases List.mem_cons.1 hk with rfl | hk
      · obtain ⟨e, he, rfl⟩ := List.mem_map.1 (s4 v hv x hx)
        exact List.mem_map.2 ⟨e, r2 e he, rfl⟩
      · exact r4 k' hk v hv x hx
theorem mapK_lat (l : List Itm) (vs ks : List Int) : MapI l (mapK l vs ks) ∧ ∀ x, x ∈ (mapK l vs ks).map (·.2) ↔ ∃ k ∈ ks, ∃ v ∈ maxI :: vs, latF l k v = some x := by
  obtain ⟨r1, r2, r3, r4⟩ := mapKs_lat (l := l) (vs := vs) (ks := ks) (m := []) ⟨fun e h => (by cases h), (by simp)⟩
  refine ⟨r1, fun x => ⟨fun h => ?_, fun ⟨k, hk, v, hv, h⟩ => r4 k hk v hv x h⟩⟩
  obtain ⟨e, he, rfl⟩ := List.mem_map.1 h
  rcases r3 e he with h | h
  · cases h
  · exact h
theorem nodup_len_le {α : Type} [DecidableEq α] : ∀ {a b : List α}, a.Nodup → (∀ x ∈ a, x ∈ b) → a.length ≤ b.length
  | [], _, _, _ => Nat.zero_le _
  | x :: a, b, hn, h => by
    have hx := h x (by simp)
    have h1 := List.length_erase_of_mem hx
    have h2 := nodup_len_le (a := a) (b := b.erase x) (List.nodup_cons.1 hn).2 fun y hy => by
      have hne : y ≠ x := fun e => (List.nodup_cons.1 hn).1 (e ▸ hy)
      exact (List.mem_erase_of_ne hne).2 (h y (by simp [hy]))
    have := List.length_pos_of_mem hx
    simp; omega
theorem MapI.values {l : List Itm} {m : List ((Int × Int) × Itm)} (h : MapI l m) : (m.map (·.2)).Pairwise (fun x y => ¬ (x.key = y.key ∧ x.ver = y.ver)) := by
  have h1 := h.nodup
  unfold List.Nodup at h1
  rw [List.pairwise_map] at h1 ⊢
  refine List.Pairwise.imp_of_mem ?_ h1
  intro a b ha hb hne ⟨e1, e2⟩
  have h2 := (h.lat a ha).1
  have h3 := (h.lat b hb).1
  exact hne (by rw [h2, h3, e1, e2])
theorem mapK_le {l : List Itm} {vs ks : List Int} {m : List ((Int × Int) × Itm)} (h : m = mapK l vs ks) : m.length ≤ l.length := by
  subst h
  obtain ⟨h1, h2⟩ := mapK_lat l vs ks
  rw [← List.length_map (f := (·.2))]
  refine nodup_len_le (h1.values.imp fun h e => h (by subst e; exact ⟨rfl, rfl⟩)) fun x hx => ?_
  obtain ⟨e, he, rfl⟩ := List.mem_map.1 hx
  obtain ⟨_, v, hv⟩ := h1.lat e he
  exact hv.mem
theorem mapK_len {l xs : List Itm} {vs ks : List Int} {m : List ((Int × Int) × Itm)} (hx : xs.Perm (m.map (·.2))) (h : m = mapK l vs ks) : xs.length ≤ l.length := by
  rw [hx.length_eq, List.length_map]; exact mapK_le h
theorem take_snoc {α : Type} [Inhabited α] {l : List α} {i : Nat} (h : i < l.length) : l.take (i + 1) = l.take i ++ [gE l (i : Int)] := by
  rw [List.take_succ_eq_append_getElem h]; simp [gE, h]
theorem mapV_yes {l : List Itm} {k : Int} {vs : List Int} {m m2 : List ((Int × Int) × Itm)} {j : Nat} (hj : j < vs.length) (h : m2 = mapV l k (vs.take j) m) (hs : (latF l k (gE vs (j : Int))).isSome = true) :
    aput m2 (k, ((latF l k (gE vs (j : Int))).getD default).ver) ((latF l k (gE vs (j : Int))).getD default) = mapV l k (vs.take (j + 1)) m := by
  obtain ⟨x, hx⟩ := Option.isSome_iff_exists.1 hs
  rw [take_snoc hj, h]
  simp only [mapV, List.foldl_append, List.foldl_cons, List.foldl_nil]
  rw [stepM, hx]; rfl
theorem mapV_no {l : List Itm} {k : Int} {vs : List Int} {m m2 : List ((Int × Int) × Itm)} {j : Nat} (hj : j < vs.length) (h : m2 = mapV l k (vs.take j) m) (hs : (latF l k (gE vs (j : Int))).isSome = false) :
    m2 = mapV l k (vs.take (j + 1)) m := by
  have hx : latF l k (gE vs (j : Int)) = none := by simpa using hs
  rw [take_snoc hj, h]
  simp only [mapV, List.foldl_append, List.foldl_cons, List.foldl_nil]
  rw [stepM, hx]
theorem mapK_step {l : List Itm} {vs ks : List Int} {m m2 : List ((Int × Int) × Itm)} {i j : Nat} (hi : i < ks.length) (h : m = mapK l vs (ks.take i)) (hj : (maxI :: vs).length ≤ j) (h2 : m2 = mapV l (gE ks (i : Int)) ((maxI :: vs).take j) m) : m2 = mapK l vs (ks.take (i + 1)) := by
  rw [List.take_of_length_le hj] at h2
  rw [take_snoc hi, h2, h]
  simp [mapK, List.foldl_append]
theorem keysF_mem (k : Int) (s : List Itm) : k ∈ keysF s ↔ ∃ x ∈ s, x.key = k := by
  refine snoc_ind (p := fun s => k ∈ keysF s ↔ ∃ x ∈ s, x.key = k) (by simp [keysF]) (fun s x ih => ?_) s
  have e : keysF (s ++ [x]) = keysS (keysF s) x := by unfold keysF; rw [List.foldl_append]; rfl
  rw [e]
  unfold keysS
  split
  · rw [List.mem_append, ih]
    simp only [List.mem_singleton, List.mem_append]
    constructor
    · rintro (⟨y, h1, h2⟩ | h)
      · exact ⟨y, .inl h1, h2⟩
      · exact ⟨x, .inr rfl, h.symm⟩
    · rintro ⟨y, h1 | h1, h2⟩
      · exact .inl ⟨y, h1, h2⟩
      · subst h1; exact .inr h2.symm
  · rename_i hc
    simp only [not_or, Classical.not_not, ne_eq] at hc
    have hx : x.key ∈ keysF s := by
      rw [← hc.2]
      unfold gE
      have hlt : (((keysF s).length : Int) - 1).toNat < (keysF s).length := by omega
      rw [List.getD_eq_getElem?_getD, List.getElem?_eq_getElem hlt]
      exact List.getElem_mem _
    rw [ih]
    simp only [List.mem_append, List.mem_singleton]
    constructor
    · rintro ⟨y, h1, h2⟩; exact ⟨y, .inl h1, h2⟩
    · rintro ⟨y, h1 | h1, h2⟩
      · exact ⟨y, h1, h2⟩
      · subst h1; subst h2
        exact ih.1 hx
theorem keysP_mem (k : Int) (l : List Itm) : k ∈ keysP l ↔ ∃ x ∈ l, x.key = k := by
  rw [keys_eq, keysF_mem]
  simp only [(sortF_spec l).1.perm.mem_iff]
theorem keep_eq {l xs : List Itm} {vs : List Int} {m : List ((Int × Int) × Itm)} {i : Nat} (hW : ∀ x ∈ l, x.ver ≤ maxI) (hx : xs.Perm (m.map (·.2))) (h : m = mapK l vs ((keysP l).take i)) (hi : (keysP l).length ≤ i) :
    sortF xs = keepF (sortF l) vs (sortF l).length := by
  rw [List.take_of_length_le hi] at h
  subst h
  obtain ⟨h1, h2⟩ := mapK_lat l vs (keysP l)
  obtain ⟨c1, s1⟩ := sortF_spec xs
  refine strict_unique ?_ (kept_sorted l vs _ (Nat.le_refl _)) fun x => ?_
  · have hn : (sortF xs).Pairwise (fun x y => ¬ (x.key = y.key ∧ x.ver = y.ver)) :=
      (List.Perm.pairwise_iff (fun {a b} h e => h ⟨e.1.symm, e.2.symm⟩) (c1.perm.trans hx)).2 h1.values
    refine (s1.and hn).imp ?_
    rintro a b ⟨ha, hb⟩
    unfold leI at ha; unfold ltI; omega
  · rw [(c1.perm.trans hx).mem_iff, h2, kept_iff hW]
    constructor
    · rintro ⟨k, hk, v, hv, hl⟩
      have := (lat_some.1 hl).1
      subst this
      exact ⟨v, hv, hl⟩
    · rintro ⟨v, hv, hl⟩
      exact ⟨x.key, (keysP_mem _ _).2 ⟨x, (lat_some.1 hl).mem, rfl⟩, v, hv, hl⟩
end Go.Proofs.Ytejpanipdjknjaa
