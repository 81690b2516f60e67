/- Part of the proof: lemmas for what the last file states; no condition. -/
import Derived.Test.YtbolanigdkgbdaaGreatZF13
import Derived.Test.YtbolanigdkgbdaaGreatProg
import Derived.RangeFuncNested
import Derived.RangeFuncBox
import Derived.RangeFuncLeaves
import Derived.Shelf.Abstract
import Derived.Shelf.AbstractIn
import Derived.WalkKit
import Derived.OwnWalkIn
import Derived.TacticsInMore
import Derived.LoopNIn
import Derived.LoopIn
import Derived.Maps.AppendAt
import Derived.Sort.MapsRangeIn
import Derived.Test.YtbolanigdkgbdaaGreatShelf
import Derived.Sort.OwnSortedInts
set_option linter.unusedSectionVars false
namespace Go.Proofs.YtbolanigdkgbdaaGreat
open Go Go.RowKit
set_option linter.unusedVariables false
theorem gE_get {α : Type} [Inhabited α] {l : List α} {j : Int} (hj : j.toNat < l.length) : gE l j = l[j.toNat] := by
  unfold gE; rw [List.getD_eq_getElem?_getD, List.getElem?_eq_getElem hj]; rfl
structure Sim (a : Ar) (r : Rr) : Prop where
  w : a.w = r.w
  n : a.d0 + a.d1 + a.d2 + a.d3 + a.d4 = r.n
  k : a.k = r.k
  at_ : a.at_ = r.at_
  old : a.old = r.old
  nw : a.nw = r.nw
  ok : a.ok = r.ok
section
variable {a : Ar} {r : Rr}
theorem Sim.hit (h : Sim a r) (i : Int) : a.hit i = r.hit i := by unfold Ar.hit Rr.hit; rw [h.w]
theorem Sim.peek (h : Sim a r) (i : Int) : a.peek i = r.peek i := by unfold Ar.peek Rr.peek; rw [h.hit, h.w]
end
def riseK (l : List Itm) : Prop := l.Pairwise fun x y => x.key < y.key
theorem itD_some {l : List Itm} {k : Int} {y : Itm} (hr : riseK l) (hy : y ∈ l) (hk : y.key = k) : 0 ≤ itD l k ∧ itD l k < l.length ∧ gE l (itD l k) = y := by
  unfold itD
  cases e : l.findIdx? (fun y => decide (y.key = k)) with
  | none => have := List.findIdx?_eq_none_iff.1 e y hy; simp [hk] at this
  | some i =>
    obtain ⟨hi, h1, h2⟩ := List.findIdx?_eq_some_iff_getElem.1 e
    refine ⟨by simp, by simpa using hi, ?_⟩
    show gE l (i : Int) = y
    rw [gE_get (by simpa using hi)]
    obtain ⟨j, hj, rfl⟩ := List.getElem_of_mem hy
    simp only [Int.toNat_natCast]
    have h3 : l[i].key = k := by simpa using h1
    have hp := List.pairwise_iff_getElem.1 hr
    rcases Nat.lt_trichotomy i j with h | h | h
    · have := hp i j hi hj h; omega
    · subst h; rfl
    · have := hp j i hj hi h; omega
theorem itD_yes2 {l : List Itm} {k : Int} (h : 0 ≤ itD l k) : ∃ i : Nat, itD l k = (i : Int) ∧ ∃ hi : i < l.length, l[i].key = k := by
  unfold itD at *
  cases e : l.findIdx? (fun y => decide (y.key = k)) with
  | none => rw [e] at h; exact absurd h (by decide)
  | some i =>
    obtain ⟨hi, h1, h2⟩ := List.findIdx?_eq_some_iff_getElem.1 e
    exact ⟨i, rfl, hi, by simpa using h1⟩
theorem putD_rise {l : List Itm} (hr : riseK l) (v : Itm) : riseK (putD l v) := by
  unfold putD
  have hp := List.pairwise_iff_getElem.1 hr
  split
  · rename_i h
    obtain ⟨i, h1, hi, h2⟩ := itD_yes2 h
    rw [h1]
    refine List.pairwise_iff_getElem.2 fun a b ha hb hab => ?_
    simp only [Int.toNat_natCast, List.getElem_set]
    rw [List.length_set] at ha hb
    have := hp a b ha hb hab
    split
    · rename_i e; subst e
      split
      · omega
      · rw [← h2]; exact this
    · split
      · rename_i e; subst e; rw [← h2]; exact this
      · exact this
  · rename_i h
    have hno : ∀ y ∈ l, y.key ≠ v.key := fun y hy e => h (itD_some hr hy e).1
    have hsplit := List.takeWhile_append_dropWhile (p := fun y : Itm => decide (y.key < v.key)) (l := l)
    have ht : l.take (posD l v.key) = l.takeWhile fun y => decide (y.key < v.key) := by
      unfold posD
      conv => lhs; arg 2; rw [← hsplit]
      rw [List.take_left]
    have hd : l.drop (posD l v.key) = l.dropWhile fun y => decide (y.key < v.key) := by
      unfold posD
      conv => lhs; arg 2; rw [← hsplit]
      rw [List.drop_left]
    rw [ht, hd]
    rw [riseK, ← hsplit] at hr
    obtain ⟨q1, q2, q3⟩ := List.pairwise_append.1 hr
    have hlow : ∀ y ∈ l.takeWhile (fun y => decide (y.key < v.key)), y.key < v.key := fun y hy => by simpa using (List.all_takeWhile (p := fun y : Itm => decide (y.key < v.key)) (l := l) |> List.all_eq_true.1) y hy
    have hhigh : ∀ y ∈ l.dropWhile (fun y => decide (y.key < v.key)), v.key < y.key := by
      cases hq : l.dropWhile (fun y => decide (y.key < v.key)) with
      | nil => intro y hy; cases hy
      | cons z q =>
        have hz : ¬ z.key < v.key := by
          have := List.head_dropWhile_not (p := fun y : Itm => decide (y.key < v.key)) (l := l) (by rw [hq]; simp)
          simpa [hq] using this
        have hzl : z ∈ l := by rw [← hsplit, hq]; simp
        have hz2 := hno z hzl
        intro y hy
        rcases List.mem_cons.1 hy with rfl | hy
        · omega
        · rw [hq] at q2
          have := (List.pairwise_cons.1 q2).1 y hy
          omega
    rw [riseK, List.append_assoc]
    refine List.pairwise_append.2 ⟨q1, ?_, fun x hx y hy => ?_⟩
    · exact List.pairwise_cons.2 ⟨hhigh, q2⟩
    · rcases List.mem_cons.1 (by simpa using hy) with rfl | hy
      · exact hlow x hx
      · exact q3 x hx y hy
theorem putD_mem {l : List Itm} (hr : riseK l) (v z : Itm) : z ∈ putD l v ↔ z = v ∨ (z ∈ l ∧ z.key ≠ v.key) := by
  have hp := List.pairwise_iff_getElem.1 hr
  unfold putD
  split
  · rename_i h
    obtain ⟨i, h1, hi, h2⟩ := itD_yes2 h
    rw [h1]; simp only [Int.toNat_natCast]
    constructor
    · intro hz
      obtain ⟨j, hj, rfl⟩ := List.getElem_of_mem hz
      rw [List.length_set] at hj
      rw [List.getElem_set]
      split
      · exact .inl rfl
      · rename_i e
        refine .inr ⟨List.getElem_mem _, fun hk => ?_⟩
        rcases Nat.lt_trichotomy i j with h | h | h
        · have := hp i j hi hj h; omega
        · exact e h
        · have := hp j i hj hi h; omega
    · rintro (rfl | ⟨hz, hk⟩)
      · exact List.mem_set hi _
      · obtain ⟨j, hj, rfl⟩ := List.getElem_of_mem hz
        have hij : i ≠ j := fun e => by subst e; exact hk h2
        have : (l.set i v)[j]'(by rw [List.length_set]; exact hj) = l[j] := by rw [List.getElem_set, if_neg hij]
        rw [← this]; exact List.getElem_mem _
  · rename_i h
    have hno : ∀ y ∈ l, y.key ≠ v.key := fun y hy e => h (itD_some hr hy e).1
    have hm : z ∈ l ↔ z ∈ l.take (posD l v.key) ∨ z ∈ l.drop (posD l v.key) := by
      conv => lhs; rw [← List.take_append_drop (posD l v.key) l]
      exact List.mem_append
    simp only [List.mem_append, List.mem_singleton]
    constructor
    · rintro ((h1 | rfl) | h1)
      · exact .inr ⟨hm.2 (.inl h1), hno z (hm.2 (.inl h1))⟩
      · exact .inl rfl
      · exact .inr ⟨hm.2 (.inr h1), hno z (hm.2 (.inr h1))⟩
    · rintro (rfl | ⟨h1, _⟩)
      · exact .inl (.inr rfl)
      · rcases hm.1 h1 with h1 | h1
        · exact .inl (.inl h1)
        · exact .inr h1
theorem aget_aput {κ α : Type} [DecidableEq κ] (ml : List (κ × α)) (k : κ) (v : α) (q : κ) : aget (aput ml k v) q = if q = k then some v else aget ml q := by
  induction ml with
  | nil =>
    have : aput ([] : List (κ × α)) k v = [(k, v)] := by simp [aput, aidx]
    rw [this, aget_cns]
  | cons x r ih =>
    rw [aput_cns]
    by_cases e : k = x.1
    · rw [if_pos e, aget_cns, aget_cns]
      subst e
      by_cases h : q = x.1
      · rw [if_pos h, if_pos h]
      · rw [if_neg h, if_neg h, if_neg h]
    · rw [if_neg e, aget_cns, aget_cns, ih]
      by_cases h : q = x.1
      · have h2 : ¬ q = k := fun h2 => e (h2.symm.trans h)
        rw [if_pos h, if_neg h2, if_pos h]
      · rw [if_neg h, if_neg h]
theorem aget_some_mem {κ α : Type} [DecidableEq κ] {ml : List (κ × α)} {k : κ} {v : α} (h : aget ml k = some v) : k ∈ ml.map (·.1) := by
  induction ml with
  | nil => simp [aget, aidx] at h
  | cons x r ih =>
    rw [aget_cns] at h
    by_cases e : k = x.1
    · rw [e]; simp
    · rw [if_neg e] at h; simp only [List.map_cons, List.mem_cons]; exact .inr (ih h)
structure MapL (ml : List (Int × Itm)) (l : List Itm) : Prop where
  rise : riseK l
  mem : ∀ y, y ∈ l ↔ aget ml y.key = some y
  own : ∀ k y, aget ml k = some y → y.key = k
  nd : (ml.map (·.1)).Nodup
theorem MapL.nil : MapL [] [] := ⟨List.Pairwise.nil, fun y => ⟨fun h => (nomatch h), fun h => by simp [aget, aidx] at h⟩, fun k y h => by simp [aget, aidx] at h, List.nodup_nil⟩
theorem MapL.put {ml : List (Int × Itm)} {l : List Itm} (h : MapL ml l) (v : Itm) : MapL (aput ml v.key v) (putD l v) := by
  refine ⟨putD_rise h.rise v, fun y => ?_, fun k y hk => ?_, aput_nd h.nd _ _⟩
  · rw [putD_mem h.rise, aget_aput]
    by_cases e : y.key = v.key
    · rw [if_pos e]
      constructor
      · rintro (rfl | ⟨_, h1⟩)
        · rfl
        · exact absurd e h1
      · intro h1; injection h1 with h1; exact .inl h1.symm
    · rw [if_neg e, ← h.mem]
      exact ⟨fun h1 => h1.elim (fun h1 => absurd (by rw [h1]) e) (·.1), fun h1 => .inr ⟨h1, e⟩⟩
  · rw [aget_aput] at hk
    by_cases e : k = v.key
    · rw [if_pos e] at hk; injection hk with hk; rw [← hk, e]
    · rw [if_neg e] at hk; exact h.own k y hk
theorem MapL.items {ml : List (Int × Itm)} {l zs : List Itm} {ys : List Int} (h : MapL ml l) (h1 : ys.Perm (ml.map (·.1))) (h2 : ys.Pairwise (· ≤ ·)) (h3 : zs = ys.map fun k => (aget ml k).getD default) : zs = l := by
  have hkn : (l.map (·.key)).Nodup := List.pairwise_map.2 (h.rise.imp fun {a b} hab => by omega)
  have hp : ys.Perm (l.map (·.key)) := h1.trans ((List.perm_ext_iff_of_nodup h.nd hkn).2 fun k => by
    constructor
    · intro hk
      obtain ⟨v, hv, _⟩ := aget_mem hk
      have hvk := h.own k v hv
      exact List.mem_map.2 ⟨v, (h.mem v).2 (by rw [hvk]; exact hv), hvk⟩
    · intro hk
      obtain ⟨y, hy, rfl⟩ := List.mem_map.1 hk
      have hv := (h.mem y).1 hy
      exact aget_some_mem hv)
  have hr : (l.map (·.key)).Pairwise (· ≤ ·) := List.pairwise_map.2 (h.rise.imp fun {a b} hab => by omega)
  have he : ys = l.map (·.key) := List.Perm.eq_of_pairwise (fun a b _ _ h1 h2 => by omega) h2 hr hp
  rw [h3, he, List.map_map]
  have : ∀ y ∈ l, ((fun k => (aget ml k).getD default) ∘ fun y : Itm => y.key) y = y := fun y hy => by
    show (aget ml y.key).getD default = y
    rw [(h.mem y).1 hy]; rfl
  rw [List.map_congr_left this]; simp
end Go.Proofs.YtbolanigdkgbdaaGreat
namespace Go.Proofs.YtbolanigdkgbdaaGreat
open Go Go.RowKit
set_option linter.unusedVariables false
theorem Sim.word {a : Ar} {r : Rr} {n k : Nat} (h : Sim a r) (hr : r.okk n k) (hk : k ≤ 100000000) : a.word := fun z hz => by
  rw [h.w] at hz
  have := hr.mid z hz
  unfold MB at this; omega
def Ar.pos (a : Ar) : Prop := 0 ≤ a.d0 ∧ 0 ≤ a.d1 ∧ 0 ≤ a.d2 ∧ 0 ≤ a.d3 ∧ 0 ≤ a.d4
end Go.Proofs.YtbolanigdkgbdaaGreat
namespace Go.Proofs.YtbolanigdkgbdaaGreat
open Go Go.RowKit Go.Shelf Go.MapKept Go.ChangeMaps
set_option linter.unusedVariables false
attribute [local go_sem] Oper.semAt_some
section
variable {κ α : Type}
theorem mEs_born (kf : κ → Value) (vf : α → Value) : ∀ (l : List (κ × α)) (b : Nat), (mEs kf vf b l).map (·.born) = List.range' b l.length
  | [], _ => rfl
  | x :: r, b => by simp only [mEs, List.map_cons, List.length_cons, List.range'_succ, mEs_born kf vf r (b + 1)]
theorem mEs_lt {kf : κ → Value} {vf : α → Value} {l : List (κ × α)} : ∀ x ∈ (mEs kf vf 0 l).toArray.toList, x.born < l.length := fun x hx => by
  have : x.born ∈ (mEs kf vf 0 l).map (·.born) := List.mem_map.2 ⟨x, by simpa using hx, rfl⟩
  rw [mEs_born] at this
  have := List.mem_range'_1.1 this
  omega
structure MIt (w : World) (kf : κ → Value) (vf : α → Value) (b r : Nat) (ml : List (κ × α)) (seen : List Nat) : Prop where
  map : w.heap[b]? = some (.map (mEs kf vf 0 ml).toArray ml.length)
  it : ∃ c0, w.heap[r]? = some (.mapIter (some b) ml.length seen.toArray c0) ∧ ml.length ≤ c0
  nodup : seen.Nodup
  lt : ∀ i ∈ seen, i < ml.length
theorem MIt.ne {w : World} {kf : κ → Value} {vf : α → Value} {b r : Nat} {ml : List (κ × α)} {seen : List Nat} (h : MIt w kf vf b r ml seen) : r ≠ b := fun e => by
  obtain ⟨c0, h1, _⟩ := h.it
  rw [e, h.map] at h1; cases h1
theorem MIt.walks {w w' : World} {kf : κ → Value} {vf : α → Value} {b r : Nat} {ml : List (κ × α)} {seen : List Nat} (h : MIt w kf vf b r ml seen) (hk : KeepsWalks w w') : MIt w' kf vf b r ml seen := by
  obtain ⟨c0, h1, h2⟩ := h.it
  exact ⟨hk.same b _ h.map rfl, ⟨c0, hk.same r _ h1 rfl, h2⟩, h.nodup, h.lt⟩
theorem MIt.iter_walk {w : World} {kf : κ → Value} {vf : α → Value} {b r : Nat} {ml : List (κ × α)} {seen : List Nat} (h : MIt w kf vf b r ml seen) : ∃ o : Obj, w.heap[r]? = some o ∧ o.isWalk = true := by
  obtain ⟨c0, h1, _⟩ := h.it
  exact ⟨_, h1, rfl⟩
theorem MIt.left_eq {w : World} {kf : κ → Value} {vf : α → Value} {b r : Nat} {ml : List (κ × α)} {seen : List Nat} (h : MIt w kf vf b r ml seen) : w.rangeLeft b r = (leftOf (mEs kf vf 0 ml).toArray seen.toArray).size := by
  obtain ⟨c0, h1, _⟩ := h.it
  simp only [World.rangeLeft, h.map, h1]
theorem nodup_lt_length : ∀ (n : Nat) (l : List Nat), l.Nodup → (∀ i ∈ l, i < n) → l.length ≤ n
  | 0, l, _, h => by
    cases l with
    | nil => exact Nat.le_refl _
    | cons x l => exact absurd (h x (by simp)) (Nat.not_lt_zero _)
  | n + 1, l, hn, h => by
    have h1 : (l.erase n).Nodup := hn.erase n
    have h2 : ∀ i ∈ l.erase n, i < n := fun i hi => by
      have h3 := h i (List.mem_of_mem_erase hi)
      have h4 : i ≠ n := fun e => by subst e; exact (List.Nodup.not_mem_erase hn) hi
      omega
    have h5 := nodup_lt_length n _ h1 h2
    have h6 := List.length_erase (a := n) (l := l)
    split at h6 <;> omega
theorem MIt.len {w : World} {kf : κ → Value} {vf : α → Value} {b r : Nat} {ml : List (κ × α)} {seen : List Nat} (h : MIt w kf vf b r ml seen) : seen.length ≤ ml.length := nodup_lt_length _ _ h.nodup h.lt
theorem MIt.next {P : Program} {w : World} {kf : κ → Value} {vf : α → Value} {b r : Nat} {ml : List (κ × α)} {seen : List Nat} (h : MIt w kf vf b r ml seen) (ty : TypeId) :
    (seen.Perm (List.range ml.length) ∧ (Instr.next (.pointer (some ⟨r, 0, none⟩)) false ty).run P w = .ok (.tuple #[.bool false]) w) ∨
    ∃ (i : Nat) (x : κ × α) (w' : World), ml[i]? = some x ∧ (Instr.next (.pointer (some ⟨r, 0, none⟩)) false ty).run P w = .ok (.tuple #[.bool true, kf x.1, vf x.2]) w' ∧ MIt w' kf vf b r ml (seen ++ [i]) ∧
      w'.rangeLeft b r < w.rangeLeft b r ∧ w.grownBy w' (some r) ∧ w'.heap.size = w.heap.size ∧ (Instr.entry (.pointer (some ⟨r, 0, none⟩))).run P w' = .ok (.tuple #[kf x.1, vf x.2]) w' := by
  obtain ⟨c0, hr, hc⟩ := h.it
  have hne := h.ne
  rcases run_next_at (P := P) w ty r b ml.length c0 seen.toArray _ ml.length hr h.map mEs_lt hc with ⟨h0, hrun⟩ | ⟨e, he, w1, hal, hrun⟩
  · refine .inl ⟨?_, hrun⟩
    refine (List.perm_ext_iff_of_nodup h.nodup List.nodup_range).2 fun i => ⟨fun hi => List.mem_range.2 (h.lt i hi), fun hi => ?_⟩
    have hlt : i < ml.length := List.mem_range.1 hi
    have h1 := mEs_get kf vf ml 0 i
    rw [List.getElem?_eq_getElem hlt] at h1
    have h2 := all_seen (mEs kf vf 0 ml).toArray seen.toArray h0 _ (by simpa using List.mem_of_getElem? h1)
    simpa using h2
  · obtain ⟨hem, hes⟩ := mem_left he
    obtain ⟨i, hi⟩ := List.getElem?_of_mem (by simpa using hem : e ∈ mEs kf vf 0 ml)
    rw [mEs_get] at hi
    obtain ⟨x, hx, rfl⟩ := Option.map_eq_some_iff.1 hi
    simp only [Nat.zero_add] at *
    have hlt : i < ml.length := (List.getElem?_eq_some_iff.1 hx).1
    have hr1 : w1.heap[r]? = some (.mapIter (some b) ml.length seen.toArray c0) := by rcases hal with rfl | rfl <;> exact hr
    have hb1 : w1.heap[b]? = some (.map (mEs kf vf 0 ml).toArray ml.length) := by rcases hal with rfl | rfl <;> exact h.map
    have hset := heap_set (o' := .mapIter (some b) ml.length (seen.toArray.push i) ml.length) hr1
    have hb' : (setBlock w1 r (.mapIter (some b) ml.length (seen.toArray.push i) ml.length)).heap[b]? = some (.map (mEs kf vf 0 ml).toArray ml.length) := (hset.2 b (fun e1 => hne e1.symm)).trans hb1
    have hni : i ∉ seen := by simpa using hes
    refine .inr ⟨i, x, _, hx, hrun, ⟨hb', ⟨ml.length, by rw [show (seen ++ [i]).toArray = seen.toArray.push i by simp]; exact hset.1, Nat.le_refl _⟩, ?_, fun j hj => ?_⟩, ?_, ?_, ?_, ?_⟩
    · exact List.nodup_append.2 ⟨h.nodup, by simp, fun a ha c hc e => by simp at hc; subst hc; subst e; exact hni ha⟩
    · rcases List.mem_append.1 hj with hj | hj
      · exact h.lt j hj
      · simp at hj; subst hj; exact hlt
    · have := left_shrinks (mEs kf vf 0 ml).toArray seen.toArray _ he
      have h1 : (setBlock w1 r (.mapIter (some b) ml.length (seen.toArray.push i) ml.length)).heap[r]? = _ := hset.1
      simp only [World.rangeLeft, hb', h1, h.map, hr]
      exact this
    · rcases hal with rfl | rfl <;> exact ⟨rfl, rfl, rfl, by simp [setBlock], fun k _ hk => hset.2 k (fun e1 => hk (by rw [e1]))⟩
    · rcases hal with rfl | rfl <;> simp [setBlock]
    · exact run_entry_at _ r b ml.length seen.toArray _ ml.length _ hset.1 hb' hem (by
        have := mEs_born kf vf ml 0
        simp only [this]
        exact List.nodup_range')
end
section
variable {κ α : Type} {P : Program} {F : Fence} {n : Nat} {ops : Array Oper} {Q : Exit → Act → World → Prop} {o : Oper} {rest : List Oper} {a : Act}
theorem wpListIn_range_mE (w : World) (hg : o.guard = none) (m : Operand) (t : TypeId) (hop : o.op = Op.range t m) {k e : TypeId} (ht : P.underlying t = some (.map k e)) {kf : κ → Value} {vf : α → Value} (b : Nat) (ml : List (κ × α))
    (hm : a.eval m = .map (some b)) (hb : w.heap[b]? = some (.map (mEs kf vf 0 ml).toArray ml.length))
    (hK : ∀ w', MIt w' kf vf b w.heap.size ml [] → w.grownBy w' none → w'.heap.size = w.heap.size + 1 → wpListIn F n P ops Q rest (a.put o.dst (.pointer (some ⟨w.heap.size, 0, none⟩))) w') :
    wpListIn F n P ops Q (o :: rest) a w := by
  refine wpListIn_plain hg fun K' hK' => ?_
  unfold Oper.wpIn
  refine ⟨?_, ?_⟩
  · simp [Oper.about, hop]
  · rw [Oper.semAt_plain F _ _ (by rw [hop]; intro c hc'; cases hc')]
    have hrun := run_range_map w t k e b _ ml.length ht hb
    have hlt : b < w.heap.size := (Array.getElem?_eq_some_iff.1 hb).1
    simp [execOp, hop, hm, hrun, Result.andThen]
    refine hK' _ _ (hK _ ⟨((MapKept.heap_alloc w _).2 b hlt).trans hb, ⟨ml.length, (MapKept.heap_alloc w _).1, Nat.le_refl _⟩, by simp, by simp⟩ (World.grownBy_alloc w _ none) (by simp))
theorem wpListIn_next_mE (w : World) (hg : o.guard = none) (it : Operand) (hop : o.op = Op.next it false) {kf : κ → Value} {vf : α → Value} (b r : Nat) (ml : List (κ × α)) (seen : List Nat)
    (hit : a.eval it = .pointer (some ⟨r, 0, none⟩)) (h : MIt w kf vf b r ml seen)
    (hDone : seen.Perm (List.range ml.length) → wpListIn F n P ops Q rest (a.put o.dst (.tuple #[.bool false])) w)
    (hMore : ∀ (i : Nat) (x : κ × α) (w' : World), ml[i]? = some x → MIt w' kf vf b r ml (seen ++ [i]) → w'.rangeLeft b r < w.rangeLeft b r →
      w.grownBy w' (some r) → w'.heap.size = w.heap.size → (Instr.entry (.pointer (some ⟨r, 0, none⟩))).run P w' = .ok (.tuple #[kf x.1, vf x.2]) w' → wpListIn F n P ops Q rest (a.put o.dst (.tuple #[.bool true, kf x.1, vf x.2])) w') :
    wpListIn F n P ops Q (o :: rest) a w := by
  refine wpListIn_plain hg fun K' hK' => ?_
  unfold Oper.wpIn
  refine ⟨by simp [Oper.about, hop], ?_⟩
  rw [Oper.semAt_plain F _ _ (by rw [hop]; intro c hc'; cases hc')]
  rcases h.next (P := P) o.type with ⟨h0, hrun⟩ | ⟨i, x, w', hx, hrun, hmi, hlt, hgr, hsz, hen⟩
  · simp [execOp, hop, hit, hrun, Result.andThen]
    exact hK' _ _ (hDone h0)
  · simp [execOp, hop, hit, hrun, Result.andThen]
    exact hK' _ _ (hMore i x w' hx hmi hlt hgr hsz hen)
end
def valsAt (ml : List (Int × Itm)) (seen : List Nat) : List Int := seen.map fun i => ((ml[i]?).map (·.1)).getD default
theorem valsAt_perm {ml : List (Int × Itm)} {seen : List Nat} (h : seen.Perm (List.range ml.length)) : (valsAt ml seen).Perm (ml.map (·.1)) := by
  refine (h.map _).trans (List.Perm.of_eq ?_)
  apply List.ext_getElem?
  intro i
  rw [List.getElem?_map, List.getElem?_map]
  rcases Nat.lt_or_ge i ml.length with hi | hi
  · rw [List.getElem?_range hi]; simp [hi]
  · rw [List.getElem?_eq_none (by simpa using hi), List.getElem?_eq_none hi]; rfl
theorem valsAt_step {ml : List (Int × Itm)} {seen : List Nat} {i : Nat} {x : Int × Itm} (h : ml[i]? = some x) : valsAt ml (seen ++ [i]) = valsAt ml seen ++ [x.1] := by
  simp [valsAt, h]
set_option maxRecDepth 100000 in
set_option maxHeartbeats 1000000 in
theorem vals1_in (F : Fence) (n : Nat) (h8 : F.fn 88) (hro : F.round = none) (hn : 1 ≤ n) (l Bm b : Nat) (ml : List (Int × Itm)) (J Jx : List Int → World → Prop)
    (hY : ∀ pre x W, J pre W → pre.length < ml.length → YieldAt F (n - 1) Tryz.prog l #[.int .i64 x] W fun e W' =>
      (e = .returned (.bool true) ∧ J (pre ++ [x]) W' ∧ KeepsWalks W W') ∨ (e = .returned (.bool false) ∧ Jx (pre ++ [x]) W'))
    (W : World) (hJ : AbidesFrom W.heap.size J) (hm : W.cell? ⟨Bm, 0, none⟩ = some (.map (some b))) (hb : W.heap[b]? = some (.map (mEs kfZ vfT 0 ml).toArray ml.length)) (h0 : J [] W) :
    CallsIn F n Tryz.prog 88 #[.func (.yield l) #[] #[], .pointer (some ⟨Bm, 0, none⟩)] W fun e W' => (∃ v, e = .returned v) ∧
      ((∃ xs, xs.Perm (ml.map (·.1)) ∧ J xs W') ∨ (∃ pre, True ∧ Jx pre W')) := by
  refine callsIn_of_wp Tryz.func88 rfl h8 ?_ hro
  simp only [Tryz.ntmps88, List.size_toArray, List.length_cons, List.length_nil, Nat.reduceAdd, Nat.reduceSub, Array.replicate_succ, Array.replicate_zero, List.push_toArray, List.append_toArray, List.nil_append, List.cons_append]
  gi_wp2_with (first
    | (gi_at_range; refine wpListIn_range_mE _ rfl _ 88 rfl Tryz.underlying88 b ml rfl hb ?_; intro w0 hrg0 hg0 hs0)
    | gi_in)
  go_frame
  gi_loopw [3] (fun _ wr => ∃ (seen : List Nat), MIt wr kfZ vfT b W.heap.size ml seen ∧ J (valsAt ml seen) wr)
    (fun _ wr => wr.rangeLeft b W.heap.size)
  case atStart =>
    exact ⟨[], hrg0, hJ [] W w0 none h0 hg0 (fun r e => by cases e)⟩
  case round =>
    obtain ⟨seen, hrg, hJs⟩ := hrel
    gi_wp2_with (first
      | (gi_at_next; refine wpListIn_next_mE _ rfl _ rfl b W.heap.size ml seen rfl hrg ?_ ?_)
      | gi_in)
    · intro hp
      gi_wp2
      go_end0
      exact ⟨⟨_, rfl⟩, .inl ⟨_, valsAt_perm hp, hJs⟩⟩
    · intro i k x w2 hx hrg2 hlt hg2 hs2 hen
      have hJ2 : J (valsAt ml seen) w2 := hJ _ wr w2 (some W.heap.size) hJs hg2 (fun r e => by cases e; exact ⟨Nat.le_refl _, hrg.iter_walk⟩)
      have hlen := hrg2.len
      obtain ⟨fn, tmps, assign, body, hy, hR⟩ := hY (valsAt ml seen) k _ hJ2 (by simp [valsAt] at hlen ⊢; omega)
      clear hs2
      gi_wp2
      refine hR.mono ?_
      rintro e W3 (⟨rfl, hJ4, hk3⟩ | ⟨rfl, hJx3⟩)
      · gi_wp2
        have hrg3 := hrg2.walks hk3
        go_roundw
        case rel => exact ⟨_, hrg3, by rw [valsAt_step hx]; exact hJ4⟩
        case measure => rw [hrg3.left_eq, ← hrg2.left_eq]; exact hlt
      · gi_wp2
        refine bodyPost_ret (results_none rfl _ _ _) rfl ?_
        exact ⟨⟨_, rfl⟩, .inr ⟨_, trivial, hJx3⟩⟩
theorem vals_stops (F : Fence) (n : Nat) (h8 : F.fn 88) (hro : F.round = none) (hn : 1 ≤ n) (Bm b : Nat) (ml : List (Int × Itm)) (w : World) (hBm : Bm < w.heap.size)
    (hm : w.cell? ⟨Bm, 0, none⟩ = some (.map (some b))) (hb : w.heap[b]? = some (.map (mEs kfZ vfT 0 ml).toArray ml.length)) :
    SeqStopsK F n Tryz.prog 88 #[.pointer (some ⟨Bm, 0, none⟩)] (fun x : Int => #[.int .i64 x]) KeepsWalks (fun xs => xs.Perm (ml.map (·.1))) (fun _ => True) ml.length w := fun l J Jx W hW hJ _ hY h0 =>
  vals1_in F n h8 hro hn l Bm b ml J Jx hY W hJ ((hW.cell (p := ⟨Bm, 0, none⟩) hBm).trans hm) ((hW.block b (Array.getElem?_eq_some_iff.1 hb).1).trans hb) h0
theorem cells_new (w : World) (xs : List Value) (t : TypeId) : ∀ j u, xs[j]? = some u → (w.alloc (.cells xs.toArray t)).cell? ((⟨w.heap.size, 0, none⟩ : Addr).add j) = some u := fun j u hj => by
  rw [add_addr]
  exact cell_of_blk (heap_alloc_new' w _) (by simpa using hj)
theorem rng_info : (Tryz.prog.info? 3).map (fun i => (i.zero, i.size, i.bytes)) = some (some (.int .i64 0), 1, 8) := by kernel_rfl
set_option maxRecDepth 100000 in
set_option maxHeartbeats 2000000 in
theorem appendSeq_in (F : Fence) (n : Nat) (h59 : F.fn 112) (hro : F.round = none) (hn : 2 ≤ n) (g : Nat) (lb : Array Value) (hFg : F.fn g) (eg : ∀ args w, (callFunc g args).run Tryz.prog w = .ok (.enter g args) w)
    (S Sp : List Int → Prop) (N : Nat) (hN : N ≤ 1000000) (w : World) (hseq : SeqStopsK F (n - 1) Tryz.prog g lb (fun x : Int => #[.int .i64 x]) KeepsWalks S Sp N w) :
    CallsIn F n Tryz.prog 112 #[.slice none 0 0, .func (.func g) #[] lb] w fun e w' => ∃ (v : Value) (ss : List Int), e = .returned v ∧ S ss ∧ w'.ownsRow w.heap.size 3 1 v ss.length (zK.all ss) ∧ Below w.heap.size w w' := by
  have h1 : 1 ≤ n := by omega
  obtain ⟨i0, hi, hz0, hz1, hz2⟩ := info_parts rng_info
  refine callsIn_of_wp_marks Tryz.func112 rfl h59 ?_ hro
  simp only [Tryz.ntmps112, List.size_toArray, List.length_cons, List.length_nil, Nat.reduceAdd, Nat.reduceSub, Array.replicate_succ, Array.replicate_zero, List.push_toArray, List.append_toArray, List.nil_append, List.cons_append]
  gi_wp2
  have bO := Boxed.new w 25 (.slice none 0 0)
  have hB0 : Below w.heap.size w (w.alloc (.cells #[.slice none 0 0] 25)) := (Below.refl _ w).alloc (Nat.le_refl _) _
  refine wpIn_rangeFunc_ownH hro h1 (gf := g) (lb := lb) rfl hFg eg hseq walksK_t walksK_b hB0 (fun _ => rfl)
    (fun pre W => (∃ v, Boxed W w.heap.size 25 v ∧ W.ownsRow w.heap.size 3 1 v pre.length (zK.all pre) ∧ True) ∧ Below w.heap.size w W)
    (fun _ _ _ => False)
    (OwnFrom.and (Own.from (holdsRow_own w.heap.size w.heap.size 25 3 1 (fun pre => pre.length) (fun pre => zK.all pre) (fun _ _ => True)) _) (ownFrom_below (Nat.le_refl _) (by simp)))
    (fun _ _ _ _ _ hs _ _ => hs)
    ⟨⟨_, bO, World.ownsRow_nil _ _ _ _, trivial⟩, hB0⟩
    (fun x a' W => a' = { tmps := #[.slice none 0 0, .func (.func g) #[] lb, .pointer (some ⟨w.heap.size, 0, none⟩), undef, .slice none 0 0, .int .i64 x, .func (.func g) #[] lb, .int .i64 x, undef, undef, undef, undef, undef], defers := [] })
    (fun x a' s X Y row h hg hr => h) ?assign ?body ?done ?stop
  case assign =>
    rintro l pre x W K ⟨⟨v, hv, hrow, _⟩, hB⟩ hK
    gi_wp2
    exact hK _ _ ((KeepsOthers.refl _).from _) (KeepsWalks.refl _) ⟨⟨v, hv, hrow, trivial⟩, hB⟩ rfl
  case body =>
    rintro l pre x a' W hl ⟨r, hr⟩ ⟨⟨v, hv, hrow, _⟩, hB⟩ rfl hlt
    have hc := hv.cell
    have hsz := hB.size
    gi_wp2_with (gi_at_builtin; refine wpListIn_append_own _ rfl _ _ 25 rfl w.heap.size 3 i0 (.int .i64 0) 1 8 Tryz.underlying25 hi hz0 hz1 hz2 rfl (by decide) _ _ _ rfl (hrow.alloc _) ⟨W.heap.size, 0, none⟩ 1 1 (zK.enc x) rfl rfl (cells_new _ _ _) (zK.one x) (by simp only [maxLen]; omega) (by omega) (by simp; omega) ?_; intro v' w1 hown' hgrow _; obtain ⟨g', cap', rfl⟩ := ownsRow_succ hown'; obtain ⟨hv1, hv2, hr2, hk2, hb2⟩ := hv.appended (by decide) hrow hB.size (Nat.le_refl _) hown' hgrow; have hc1 := hv1.cell; have hf1 := hv1.frozen)
    have e2 : zK.all (pre ++ [x]) = zK.all pre ++ zK.enc x := by rw [zK.all_append]; simp [Ek.all]
    have hr3 := hr2
    rw [← e2] at hr3
    exact ⟨hk2.from _, hk2.walks, ⟨⟨_, hv2, by rw [show (pre ++ [x]).length = pre.length + 1 by simp]; exact hr3⟩, hB.trans hb2⟩⟩
  case done =>
    rintro D ys W hD hS ⟨⟨v, hv, hrow, _⟩, hB⟩ hK
    have hc := hv.cell
    gi_wp2
    refine ⟨by simp, .inl ⟨_, _, rfl, run_takeDeferred hK, ?_⟩⟩
    exact ⟨_, results_tmp rfl _ _ _, v, ys, rfl, hS, ownsRow_putObj hrow _ hK rfl, hB.trans (belowK_b (w := w) (Nat.le_refl _) W D _ _ (by simp at hD; omega) hK rfl rfl)⟩
  case stop =>
    rintro D c pre W _ _ h _
    exact h.elim
set_option maxHeartbeats 1000000 in
theorem collect_in (F : Fence) (n : Nat) (h8 : F.fn 86) (h59 : F.fn 112) (hro : F.round = none) (hn : 3 ≤ n) (g : Nat) (lb : Array Value) (hFg : F.fn g) (eg : ∀ args w, (callFunc g args).run Tryz.prog w = .ok (.enter g args) w)
    (S Sp : List Int → Prop) (N : Nat) (hN : N ≤ 1000000) (w : World) (hseq : SeqStopsK F (n - 1 - 1) Tryz.prog g lb (fun x : Int => #[.int .i64 x]) KeepsWalks S Sp N w) :
    CallsIn F n Tryz.prog 86 #[.func (.func g) #[] lb] w fun e w' => ∃ (v : Value) (ss : List Int), e = .returned v ∧ S ss ∧ w'.ownsRow w.heap.size 3 1 v ss.length (zK.all ss) ∧ Below w.heap.size w w' := by
  have h1 : 1 ≤ n := by omega
  refine callsIn_of_wp Tryz.func86 rfl h8 ?_ hro
  simp only [Tryz.ntmps86, List.size_toArray, List.length_cons, List.length_nil, Nat.reduceAdd, Nat.reduceSub, Array.replicate_succ, Array.replicate_zero, List.push_toArray, List.append_toArray, List.nil_append, List.cons_append]
  gi_wp2_with (gi_at_call 112; refine (appendSeq_in F (n - 1) h59 hro (by omega) g lb hFg eg S Sp N hN _ hseq).mono ?_; rintro e w' ⟨v, ss, rfl, hS, hrow, hb⟩)
  go_ret
  exact ⟨v, ss, rfl, hS, hrow, hb⟩
section
variable {α : Type}
theorem ownsRow_base0 {w : World} {base E sz n : Nat} {v : Value} {xs : List Value} (h : w.ownsRow base E sz v n xs) : w.ownsRow 0 E sz v n xs ∧ ∀ k, v.ownBlock = some k → base ≤ k := by
  obtain ⟨hl, h | ⟨g, cap, cur, rfl, hb, hg, hr⟩⟩ := h
  · refine ⟨⟨hl, .inl h⟩, fun k hk => ?_⟩
    rw [h.1] at hk; simp [Value.ownBlock] at hk
  · exact ⟨⟨hl, .inr ⟨g, cap, cur, rfl, Nat.zero_le _, hg, hr⟩⟩, fun k hk => by simp [Value.ownBlock] at hk; omega⟩
def IsRE (k : Ek α) (E : TypeId) (φ : List α → Prop) : Value → Hp → Hp → Prop := fun v N H => ∃ x, φ x ∧ N = [rowE k E v x] ∧ H = []
end
theorem c_collect {bm b : Nat} {ml : List (Int × Itm)} (hN : ml.length ≤ 1000000) :
    Fn Tryz.prog 86 [.func (.func 88) #[] #[.pointer (some ⟨bm, 0, none⟩)]] [mapE kfZ vfT b ml, .blk bm (.cells #[.map (some b)] 88)] [] (IsRE zK 3 (fun xs => xs.Perm (ml.map (·.1)))) := by
  refine ⟨⟨_, Tryz.func86, by kernel_rfl, by kernel_rfl⟩, fun w hw => callsIn_wide (n := 3).1 ?_⟩
  have hb : w.heap[b]? = some (.map (mEs kfZ vfT 0 ml).toArray ml.length) := hw.hasS (mapE kfZ vfT b ml) (by simp)
  have hm : w.heap[bm]? = some (.cells #[.map (some b)] 88) := hw.hasS (.blk bm (.cells #[.map (some b)] 88)) (by simp)
  have hs := vals_stops Fence.wide 1 trivial rfl (Nat.le_refl _) bm b ml w (Array.getElem?_eq_some_iff.1 hm).1 (cell_of_blk hm rfl) hb
  refine (collect_in Fence.wide 3 trivial trivial rfl (Nat.le_refl _) 88 #[.pointer (some ⟨bm, 0, none⟩)] trivial (enters_of Tryz.func88 (by kernel_rfl) rfl) _ _ ml.length hN w hs).mono ?_
  rintro e w' ⟨v, ss, rfl, hS, hrow, hbl⟩
  obtain ⟨h1, h2⟩ := ownsRow_base0 hrow
  refine ⟨v, [rowE zK 3 v ss], [], ⟨ss, hS, rfl, rfl⟩, rfl, ?_⟩
  have := hw.addN (w' := w') (e' := rowE zK 3 v ss) (fun k hk => h2 k hk) h1 hbl.os hbl.tape hbl.output hbl.size (fun k hk => hbl.block k hk)
  exact this
end Go.Proofs.YtbolanigdkgbdaaGreat
namespace Go.Proofs.YtbolanigdkgbdaaGreat
open Go Go.RowKit Go.Sort
set_option linter.unusedVariables false
theorem zK_all (l : List Int) : zK.all l = l.map (Value.int .i64) := by
  induction l with
  | nil => rfl
  | cons x l ih => rw [Ek.all_cons, ih]; rfl
theorem callable_sort : Callable Tryz.prog 87 := ⟨_, Tryz.func87, by kernel_rfl, by kernel_rfl⟩
def sortZ (l : List Int) : List Int := l.mergeSort fun x y => decide (x ≤ y)
theorem sortZ_length (l : List Int) : (sortZ l).length = l.length := List.length_mergeSort l
theorem post1 {w w' : World} {e : Ent} {R : Value → Hp → Hp → Prop} {v : Value} {N H : Hp} (hR : R v [] H) (h : St w w' [] [] H) : PostOf w [] R (.returned v) w' := ⟨v, [], H, hR, rfl, h⟩
theorem st1 {w w' : World} {v v' : Value} {E sz n n' : Nat} {xs xs' : List Value} (h : St w w [] [] [.row v E sz n xs]) (hg : w.grownBy w' v.ownBlock) (ho : w'.ownsRow 0 E sz v' n' xs') (hk : v'.ownBlock = v.ownBlock) : St w w' [] [] [.row v' E sz n' xs'] :=
  h.upd (.h .here) hk ho hg.os hg.tape hg.output hg.size fun k hkl hne => hg.block k hkl hne
theorem c_sortI {v : Value} {n : Nat} {l : List Int} (hn : l.length = n) (hN : n ≤ 1000000) : Fn Tryz.prog 87 [v] [] [.row v 3 1 n (zK.all l)] (IsW (.tuple #[]) [.row v 3 1 n (zK.all (sortZ l))]) := by
  refine ⟨callable_sort, fun w hw => ?_⟩
  have hrow : w.ownsRow 0 3 1 v n (zK.all l) := hw.has (.row v 3 1 n (zK.all l)) (by simp)
  have hrow' := hrow
  obtain ⟨hl, ⟨rfl, rfl⟩ | ⟨g, cap, cur, rfl, hb, hgb, hnc, hcm, hcs, ht⟩⟩ := hrow'
  · have h0 : l = [] := List.eq_nil_of_length_eq_zero hn
    subst h0
    have hs : sortZ [] = [] := by simp [sortZ]
    rw [hs]
    refine (Tryz.slices_Sort_int_none none 0 w).mono ?_
    rintro e w' ⟨rfl, rfl⟩
    exact post1 (e := .row .nilFunc 0 0 0 []) (N := []) ⟨rfl, rfl, rfl⟩ hw
  · subst hn
    rw [zK_all, Nat.mul_one] at ht
    have hlt : g < w.heap.size := (Array.getElem?_eq_some_iff.1 hgb).1
    refine (Tryz.slices_Sort_int g 0 cap l w (holds_of_blockI hgb ht) hlt (by omega)).mono ?_
    rintro e w' ⟨rfl, q, os, rfl⟩
    have h1 := ownsRow_sortedI (w := w) (n := q) (os := os) (ss := l) (ts := sortZ l) (sortZ_length l) (Nat.zero_le g) hgb hnc hcm (by omega)
    rw [← zK_all] at h1
    exact post1 (e := .row .nilFunc 0 0 0 []) (N := []) ⟨rfl, rfl, rfl⟩ (st1 hw (grownBy_sortedI (w := w) (g := g) (n := q) (os := os) (sortZ l).toArray) h1 rfl)
theorem c_sortM {v : Value} {n : Nat} {l : List Int} (hn : l.length = n) (hN : n ≤ 1000000) : Fn Tryz.prog 87 [v] [] [.row v 3 1 n (zK.all l)] (IsM (.tuple #[]) [.row v 3 1 n (zK.all (sortZ l))]) := by
  obtain ⟨h1, h2⟩ := c_sortI (v := v) hn hN
  refine ⟨h1, fun w hw => (h2 w hw).mono ?_⟩
  rintro e w' ⟨u, N, H, ⟨rfl, rfl, rfl⟩, rfl, hst⟩
  exact ⟨_, _, _, ⟨rfl, rfl, rfl⟩, rfl, hst⟩
end Go.Proofs.YtbolanigdkgbdaaGreat
namespace Go.Proofs.YtbolanigdkgbdaaGreat
open Go Go.RowKit
set_option maxRecDepth 10000
set_option linter.unusedVariables false
theorem fo_90_0 : fieldOff? Tryz.prog 90 0 = some 0 := by kernel_rfl
theorem fo_90_1 : fieldOff? Tryz.prog 90 1 = some 4 := by kernel_rfl
theorem fo_90_10 : fieldOff? Tryz.prog 90 10 = some 13 := by kernel_rfl
theorem fo_90_11 : fieldOff? Tryz.prog 90 11 = some 14 := by kernel_rfl
theorem fo_90_2 : fieldOff? Tryz.prog 90 2 = some 5 := by kernel_rfl
theorem fo_90_3 : fieldOff? Tryz.prog 90 3 = some 6 := by kernel_rfl
theorem fo_90_4 : fieldOff? Tryz.prog 90 4 = some 7 := by kernel_rfl
theorem fo_90_5 : fieldOff? Tryz.prog 90 5 = some 8 := by kernel_rfl
theorem fo_90_6 : fieldOff? Tryz.prog 90 6 = some 9 := by kernel_rfl
theorem fo_90_7 : fieldOff? Tryz.prog 90 7 = some 10 := by kernel_rfl
theorem fo_90_8 : fieldOff? Tryz.prog 90 8 = some 11 := by kernel_rfl
theorem fo_90_9 : fieldOff? Tryz.prog 90 9 = some 12 := by kernel_rfl
theorem agetT (ml : List (Int × Itm)) (k : Int) : agetV vfT (.agg #[.int .i64 0, .int .i64 0, .int .i64 0]) ml k = vfT ((aget ml k).getD default) := by
  unfold agetV
  cases aget ml k <;> rfl
theorem k_at {b bm : Nat} {x : Lk} (hx : x.ok) : Fn Tryz.prog 49 [.pointer (some ⟨b, 0, none⟩)] ([lkB b bm x]) ([]) (IsV (.int .i64 x.at_)) := by
 refine Fn.enter Tryz.func49 (by kernel_rfl) rfl (n := 12) rfl rfl (fun w => ?_)
 obtain ⟨hx1, hx2, hx3⟩ := hx
 refine W ?_
 refine At.drawK [tt 0, tt 1, tt 2, tt 3, tt 4, tt 5, tt 6, tt 7, ff 8, tt 9] (by kernel_rfl) (by kernel_rfl) ?_
 refine W ?_
 refine At.callVR rfl rfl rfl (.k rfl (.k rfl .nil)) (.nil) (fun hg => p_State (by omega) (by omega)) kI ?_
 refine W ?_
 exact fT rfl (.t rfl) (⟨rfl, rfl, rfl⟩)
theorem k_next {b bm : Nat} {x : Lk} (hx : x.ok) : Fn Tryz.prog 48 [.pointer (some ⟨b, 0, none⟩)] ([]) ([lkB b bm x]) (IsM (.int .i64 x.nextL) [lkB b bm x.next]) := by
 refine Fn.enter Tryz.func48 (by kernel_rfl) rfl (n := 19) rfl rfl (fun w => ?_)
 obtain ⟨hx1, hx2, hx3⟩ := hx
 refine W ?_
 refine At.st1 rfl rfl sz_3 (.t rfl) (.t rfl) rfl rfl (.h U0) ⟨.all, ?_⟩
 refine W ?_
 refine At.drawK [tt 0, tt 1, tt 2, tt 3, tt 4, tt 5, tt 6, tt 7, tt 8] (by kernel_rfl) (by kernel_rfl) ?_
 refine Z ?_
 refine At.condD (.t rfl) (fun c1 => ?_) (fun c1 => ?_)
 ·
  refine W ?_
  exact fT rfl (.t rfl) (⟨by unfold Lk.nextL; (rw [if_pos (by omega)]), rfl, rfl⟩)
 ·
  refine W ?_
  exact fT rfl (.t rfl) (⟨by unfold Lk.nextL; (rw [if_neg (by omega)]), rfl, rfl⟩)
theorem k_seen {b bm : Nat} {x : Lk} (hx : x.ok) : Fn Tryz.prog 53 [.pointer (some ⟨b, 0, none⟩)] ([]) ([lkB b bm x, lkM bm x]) (IsM (.int .i64 x.seenL) [lkB b bm x.seen, lkM bm x.seen]) := by
 refine Fn.enter Tryz.func53 (by kernel_rfl) rfl (n := 40) rfl rfl (fun w => ?_)
 have hx0 := hx
 obtain ⟨hx1, hx2, hx3⟩ := hx
 refine W ?_
 refine At.drawK [tt 0, tt 1, tt 2, tt 3, tt 4, tt 5, tt 6, tt 7, tt 8, tt 9, tt 10, tt 11, ff 12, ff 13, tt 14] (by kernel_rfl) (by kernel_rfl) ?_
 refine W ?_
 refine sJ rfl (R.as (R.lookup2 (kf := kfZ) (vf := vfT) Tryz.underlying88 (keyOk_int Tryz.underlying3) ze_43 (.t rfl) (.t rfl) (Holds.kept M1)) (fun _ => congrArg (fun v => Value.tuple #[v, _]) (agetT x.ml x.key))) ?_
 refine W ?_
 refine At.alloc rfl rfl rfl ze_43 (fun b1 hb1 => ⟨kz, ?_⟩)
 refine At.stN rfl rfl sz_43 (.t rfl) (.t rfl) rfl rfl rfl (.n U0) ⟨kz, ?_⟩
 refine W ?_
 refine At.callVR rfl rfl rfl (.k rfl .nil) (.nil) (fun hg => w_Version (by omega)) .all ?_
 refine U ?_
 refine eA rfl (R.gtr (.t rfl) (.t rfl)) ?_
 refine U ?_
 refine eA rfl (R.lss (.s rfl) (.s rfl)) ?_
 refine eA rfl (R.pickAnd (.s rfl) rfl (by (intro hg h; rw [hg, h]; rfl))) ?_
 refine eA rfl (R.pickOr (.t rfl) rfl (by (intro hg h; rw [h]; rfl))) ?_
 refine U ?_
 refine At.cond (.t rfl) (fun c1 => ?_) (fun c1 => ?_)
 ·
  have hp : x.past = true := c1
  refine W ?_
  refine cM rfl rfl rfl (.k rfl .nil) rfl (.h (.take .nil)) .nil (k_next (x := x) hx0) rfl .nil ⟨.all, ?_⟩
  refine W ?_
  exact fT rfl (.t rfl) (⟨by unfold Lk.seenL; (rw [if_pos hp]), rfl, by unfold Lk.seen; (rw [if_pos hp]; rfl)⟩)
 ·
  have hp : ¬ x.past = true := (by exact (fun h => Bool.false_ne_true ((Eq.symm c1).trans h)))
  refine W ?_
  exact fT rfl (.t rfl) (⟨by unfold Lk.seenL; (rw [if_neg hp]), rfl, by unfold Lk.seen; (rw [if_neg hp])⟩)
theorem k_keyed {b bm ba n : Nat} {wv : Value} {x : Lk} {a : Ar} (hx : x.ok) (hn : a.w.length = n) (hN : n ≤ 1000000) (hf : a.few) : Fn Tryz.prog 50 [.pointer (some ⟨b, 0, none⟩), .pointer (some ⟨ba, 0, none⟩)] ([]) ([lkB b bm x, lkM bm x, arB ba wv a, arW wv n a]) (IsM (.int .i64 (x.keyed (a.peek (x.at_ + 1))).2) [lkB b bm (x.keyed (a.peek (x.at_ + 1))).1, lkM bm (x.keyed (a.peek (x.at_ + 1))).1, arB ba wv (a.load (x.at_ + 1)), arW wv n (a.load (x.at_ + 1))]) := by
 refine Fn.enter Tryz.func50 (by kernel_rfl) rfl (n := 44) rfl rfl (fun w => ?_)
 have hx0 := hx
 obtain ⟨hx1, hx2, hx3⟩ := hx
 have hxk : (x.withKey (a.peek (x.at_ + 1))).ok := ⟨hx1, hx2, hx3⟩
 have hat : x.at_ = x.chunk + 7 + 3 * x.i := rfl
 refine W ?_
 refine At.callVR rfl rfl rfl (.k rfl .nil) (.blk (.st M0) .nil) (fun hg => k_at (x := x) hx0) .all ?_
 refine W ?_
 refine cM rfl rfl rfl (.k rfl (.k rfl .nil)) rfl (.h (.skip (.skip (.take (.take .nil))))) .nil (a_Load (a := a) hn hN hf) rfl .nil ⟨.all, ?_⟩
 refine W ?_
 refine At.st1 rfl rfl sz_3 (.t rfl) (.t rfl) rfl rfl (.h U0) ⟨.all, ?_⟩
 refine W ?_
 refine At.drawK [tt 0, tt 1, tt 2, tt 3, tt 4, tt 5, tt 6, tt 7, tt 8, tt 9, tt 10, tt 11, tt 12, tt 13, tt 14, tt 15, tt 16, tt 17, tt 18, tt 19, tt 20] (by kernel_rfl) (by kernel_rfl) ?_
 refine Z ?_
 refine At.cond (.t rfl) (fun c1 => ?_) (fun c1 => ?_)
 ·
  have hk := Lk.keyed_out (x := x) (k := (a.peek (x.at_ + 1))) (by simpa using c1)
  refine W ?_
  refine cM rfl rfl rfl (.k rfl .nil) rfl (.h (.take .nil)) .nil (k_next (x := (x.withKey (a.peek (x.at_ + 1)))) hxk) rfl .nil ⟨.all, ?_⟩
  refine W ?_
  exact fT rfl (.t rfl) (⟨by rw [hk], rfl, by (rw [hk]; rfl)⟩)
 ·
  have hk0 : ¬ ((a.peek (x.at_ + 1)) < x.lo ∨ x.hi < (a.peek (x.at_ + 1))) := (by simpa using c1)
  refine Z ?_
  refine At.condN (.t rfl) (fun c2 => ?_) (fun c2 => ?_)
  ·
   have hk := Lk.keyed_seen hk0 (by simpa using c2)
   refine W ?_
   refine cM rfl rfl rfl (.k rfl .nil) rfl (.h (.take (.take .nil))) .nil (k_seen (x := (x.withKey (a.peek (x.at_ + 1)))) hxk) rfl .nil ⟨.all, ?_⟩
   refine W ?_
   exact fT rfl (.t rfl) (⟨by rw [hk], rfl, by (rw [hk]; done)⟩)
  ·
   have hk := Lk.keyed_post hk0 (by simpa using c2)
   refine W ?_
   exact fT rfl (.t rfl) (⟨by rw [hk], rfl, by (rw [hk]; rfl)⟩)
theorem k_Step {b bm ba n : Nat} {wv : Value} {x : Lk} {a : Ar} (hx : x.ok) (hn : a.w.length = n) (hN : n ≤ 1000000) (hf : a.few) (hw : a.word) : Fn Tryz.prog 15 [.pointer (some ⟨b, 0, none⟩), .pointer (some ⟨ba, 0, none⟩)] ([]) ([lkB b bm x, lkM bm x, arB ba wv a, arW wv n a]) (IsM (.bool (decide ((x.step a).1.line = 0))) [lkB b bm (x.step a).1, lkM bm (x.step a).1, arB ba wv (x.step a).2, arW wv n (x.step a).2]) := by
 refine Fn.enter Tryz.func15 (by kernel_rfl) rfl (n := 155) rfl rfl (fun w => ?_)
 have hx0 := hx
 obtain ⟨hx1, hx2, hx3⟩ := hx
 have hat : x.at_ = x.chunk + 7 + 3 * x.i := rfl
 have hps := a.peek_bd hw x.at_
 have hxn : (x.withN (min (max (a.peek (x.chunk + 1)) 0) x.cap)).ok := ⟨hx1, hx2, hx3⟩
 have hxs : (x.withState (a.peek x.at_)).ok := ⟨hx1, hx2, hps⟩
 have hxm : (x.withMl (aput x.ml x.key ⟨x.key, verW x.state, a.peek (x.at_ + 2)⟩)).ok := ⟨hx1, hx2, hx3⟩
 refine Z ?_
 refine At.condD (.t rfl) (fun c1 => ?_) (fun c1 => ?_)
 ·
  have hst := Lk.step0 (a := a) (by simpa using c1)
  refine Y ?_
  exact fT rfl (.t rfl) (⟨by (rw [hst]; exact congrArg Value.bool (decide_eq_true c1).symm), rfl, by (rw [hst]; done)⟩)
 ·
  refine Z ?_
  refine At.condD (.t rfl) (fun c2 => ?_) (fun c2 => ?_)
  ·
   have hst := Lk.step1 (a := a) (by simpa using c2)
   refine W ?_
   refine At.drawM ([lkB b bm x, lkM bm x]) ([]) [tt 0, tt 1, tt 2, tt 3, tt 4, tt 9, tt 10, tt 11, tt 12] [tt 5, tt 6, tt 13, ff 7, tt 8, tt 14] [tt 15, tt 16, ff 17] (keepOf sl) (fun _ h => nomatch h) (by kernel_rfl) (by kernel_rfl) ?_
   refine V ?_
   refine At.stage kz ?_
   refine W ?_
   refine cM rfl rfl rfl (.k rfl (.k rfl .nil)) rfl (.h (.skip (.skip (.take (.take .nil))))) .nil (a_Load (a := a) hn hN hf) rfl .nil ⟨kz, ?_⟩
   refine VZ ?_
   refine At.stage Cl.none ?_
   refine W ?_
   refine At.st1 rfl rfl sz_3 (.t rfl) (.t rfl) rfl rfl (.h U0) ⟨Cl.none, ?_⟩
   refine W ?_
   refine cM rfl rfl rfl (.k rfl .nil) rfl (.h (.take .nil)) .nil (k_next (x := (x.withN (min (max (a.peek (x.chunk + 1)) 0) x.cap))) hxn) rfl .nil ⟨.all, ?_⟩
   refine W ?_
   refine At.st1 rfl rfl sz_3 (.t rfl) (.t rfl) rfl rfl (.h U0) ⟨.all, ?_⟩
   refine Z ?_
   exact fT rfl (.t rfl) (⟨by (rw [hst]; done), rfl, by (rw [hst]; rfl)⟩)
  ·
   refine Z ?_
   refine At.condD (.t rfl) (fun c3 => ?_) (fun c3 => ?_)
   ·
    refine W ?_
    refine At.callVR rfl rfl rfl (.k rfl .nil) (.blk (.st M0) .nil) (fun hg => k_at (x := x) hx0) .all ?_
    refine cM rfl rfl rfl (.k rfl (.k rfl .nil)) rfl (.h (.skip (.skip (.take (.take .nil))))) .nil (a_Load (a := a) hn hN hf) rfl .nil ⟨.all, ?_⟩
    refine W ?_
    refine At.st1 rfl rfl sz_3 (.t rfl) (.t rfl) rfl rfl (.h U0) ⟨.all, ?_⟩
    refine Z ?_
    refine At.cond (.t rfl) (fun c4 => ?_) (fun c4 => ?_)
    ·
     have hst := Lk.step2y (a := a) (by simpa using c3) (by simpa using c4)
     refine W ?_
     refine At.st1 rfl rfl sz_3 (.t rfl) .c rfl rfl (.h U0) ⟨.all, ?_⟩
     refine Y ?_
     exact fT rfl (.t rfl) (⟨by (rw [hst]; rfl), rfl, by (rw [hst]; rfl)⟩)
    ·
     have hst := Lk.step2n (a := a) (by simpa using c3) (by simpa using c4)
     refine W ?_
     refine cM rfl rfl rfl (.k rfl .nil) rfl (.h (.take .nil)) .nil (k_next (x := (x.withState (a.peek x.at_))) hxs) rfl .nil ⟨.all, ?_⟩
     refine W ?_
     refine At.st1 rfl rfl sz_3 (.t rfl) (.t rfl) rfl rfl (.h U0) ⟨.all, ?_⟩
     refine Z ?_
     exact fT rfl (.t rfl) (⟨by (rw [hst]; done), rfl, by (rw [hst]; rfl)⟩)
   ·
    refine Z ?_
    refine At.condD (.t rfl) (fun c5 => ?_) (fun c5 => ?_)
    ·
     have hst := Lk.step3 (a := a) (by simpa using c5)
     refine W ?_
     refine cM rfl rfl rfl (.k rfl (.k rfl .nil)) rfl (.h (.take (.take (.take (.take .nil))))) .nil (k_keyed (x := x) (a := a) hx0 hn hN hf) rfl .nil ⟨.all, ?_⟩
     refine W ?_
     refine At.st1 rfl rfl sz_3 (.t rfl) (.t rfl) rfl rfl (.h U0) ⟨.all, ?_⟩
     refine Z ?_
     exact fT rfl (.t rfl) (⟨by (rw [hst]; done), rfl, by (rw [hst]; rfl)⟩)
    ·
     refine Z ?_
     refine At.condD (.t rfl) (fun c6 => ?_) (fun c6 => ?_)
     ·
      have hst := Lk.step4 (a := a) (by simpa using c6)
      refine W ?_
      refine cM rfl rfl rfl (.k rfl (.kc .nil)) rfl (.h (.skip (.skip (.take (.take .nil))))) .nil (a_Load (a := a) hn hN hf) rfl .nil ⟨.all, ?_⟩
      refine W ?_
      refine At.st1 rfl rfl sz_3 (.t rfl) (.t rfl) rfl rfl (.h U0) ⟨.all, ?_⟩
      refine W ?_
      refine At.st1 rfl rfl sz_3 (.t rfl) .c rfl rfl (.h U0) ⟨.all, ?_⟩
      refine Y ?_
      exact fT rfl (.t rfl) (⟨by (rw [hst]; rfl), rfl, by (rw [hst]; rfl)⟩)
     ·
      refine Z ?_
      refine At.condD (.t rfl) (fun c7 => ?_) (fun c7 => ?_)
      ·
       have hst := Lk.step5 (a := a) (by simpa using c7)
       refine W ?_
       refine At.drawL ([lkB b bm x]) [tt 0, tt 1, tt 3, tt 4, tt 5, tt 6] [ff 2, ff 7] [ff 8] (keepOf sl) (by kernel_rfl) (by kernel_rfl) ?_
       refine V ?_
       refine At.stage kI ?_
       refine At.callVR rfl rfl rfl (.k rfl .nil) (.blk (.st M0) .nil) (fun hg => k_at (x := x) hx0) kI ?_
       refine At.callVR rfl rfl rfl (.k rfl .nil) (.nil) (fun hg => w_State) kI ?_
       refine At.stage kz ?_
       refine cM rfl rfl rfl (.k rfl (.k rfl (.kc (.k rfl .nil)))) rfl (.h (.skip (.skip (.take (.take .nil))))) .nil (a_Swap (a := a) hn hN hf) rfl .nil ⟨kz, ?_⟩
       refine W ?_
       refine At.st1 rfl rfl sz_3 (.t rfl) .c rfl rfl (.h U0) ⟨.all, ?_⟩
       refine Y ?_
       exact fT rfl (.t rfl) (⟨by (rw [hst]; rfl), rfl, by (rw [hst]; rfl)⟩)
      ·
       refine Z ?_
       refine At.condD (.t rfl) (fun c8 => ?_) (fun c8 => ?_)
       ·
        refine W ?_
        refine At.callVR rfl rfl rfl (.k rfl .nil) (.blk (.st M0) .nil) (fun hg => k_at (x := x) hx0) .all ?_
        refine cM rfl rfl rfl (.k rfl (.k rfl .nil)) rfl (.h (.skip (.skip (.take (.take .nil))))) .nil (a_Load (a := a) hn hN hf) rfl .nil ⟨.all, ?_⟩
        refine W ?_
        refine At.st1 rfl rfl sz_3 (.t rfl) (.t rfl) rfl rfl (.h U0) ⟨.all, ?_⟩
        refine Z ?_
        refine At.condD (.t rfl) (fun c9 => ?_) (fun c9 => ?_)
        ·
         have hst := Lk.step6n (a := a) (by simpa using c8) (by simpa using c9)
         refine W ?_
         refine cM rfl rfl rfl (.k rfl .nil) rfl (.h (.take .nil)) .nil (k_next (x := (x.withState (a.peek x.at_))) hxs) rfl .nil ⟨.all, ?_⟩
         refine W ?_
         refine At.st1 rfl rfl sz_3 (.t rfl) (.t rfl) rfl rfl (.h U0) ⟨.all, ?_⟩
         refine Z ?_
         exact fT rfl (.t rfl) (⟨by (rw [hst]; done), rfl, by (rw [hst]; rfl)⟩)
        ·
         have hst := Lk.step6y (a := a) (by simpa using c8) (by simpa using c9)
         refine W ?_
         refine cM rfl rfl rfl (.k rfl .nil) rfl (.h (.take (.take .nil))) .nil (k_seen (x := (x.withState (a.peek x.at_))) hxs) rfl .nil ⟨.all, ?_⟩
         refine W ?_
         refine At.st1 rfl rfl sz_3 (.t rfl) (.t rfl) rfl rfl (.h U0) ⟨.all, ?_⟩
         refine Z ?_
         exact fT rfl (.t rfl) (⟨by (rw [hst]; done), rfl, by (rw [hst]; rfl)⟩)
       ·
        refine Z ?_
        refine At.condD (.t rfl) (fun c10 => ?_) (fun c10 => ?_)
        ·
         have hst := Lk.step7 (a := a) (by simpa using c10)
         refine W ?_
         refine At.drawM ([lkB b bm x, lkM bm x]) ([]) [tt 0, tt 1, tt 2, tt 4, tt 5, tt 6, tt 8, tt 9, tt 10, tt 12, tt 13, tt 14, tt 17, tt 18] [tt 3, tt 7, tt 11, tt 15, ff 16, ff 19, tt 20, ff 21, tt 22] [ff 23] (keepOf sl) (fun _ h => nomatch h) (by kernel_rfl) (by kernel_rfl) ?_
         refine V ?_
         refine At.stage kz ?_
         refine W ?_
         refine At.callVR rfl rfl rfl (.k rfl .nil) (.nil) (fun hg => w_Version (by omega)) kz ?_
         refine At.callVR rfl rfl rfl (.k rfl .nil) (.blk (.st M0) .nil) (fun hg => k_at (x := x) hx0) kz ?_
         refine W ?_
         refine cM rfl rfl rfl (.k rfl (.k rfl .nil)) rfl (.h (.skip (.skip (.take (.take .nil))))) .nil (a_Load (a := a) hn hN hf) rfl .nil ⟨kz, ?_⟩
         refine sC rfl kz (R.build bt_43 (.k rfl (.k rfl (.k rfl .nil))) (.cons rfl (.cons rfl (.cons rfl .nil))) rfl) ?_
         refine At.stage Cl.none ?_
         refine At.mapUp (kf := kfZ) (vf := vfT) (ml := x.ml) (k := x.key) (v := ⟨x.key, verW x.state, a.peek (x.at_ + 2)⟩) rfl rfl Tryz.underlying88 (keyOk_int Tryz.underlying3) (.t rfl) (.t rfl) (.t rfl) (.h U1) ⟨kz, ?_⟩
         refine W ?_
         refine cM rfl rfl rfl (.k rfl .nil) rfl (.h (.take .nil)) .nil (k_next (x := (x.withMl (aput x.ml x.key ⟨x.key, verW x.state, a.peek (x.at_ + 2)⟩))) hxm) rfl .nil ⟨.all, ?_⟩
         refine W ?_
         refine At.st1 rfl rfl sz_3 (.t rfl) (.t rfl) rfl rfl (.h U0) ⟨.all, ?_⟩
         refine Z ?_
         exact fT rfl (.t rfl) (⟨by (rw [hst]; done), rfl, by (rw [hst]; rfl)⟩)
        ·
         have hst := Lk.step8 (a := a) (by simpa using c1) (by simpa using c2) (by simpa using c3) (by simpa using c5) (by simpa using c6) (by simpa using c7) (by simpa using c8) (by simpa using c10)
         refine Y ?_
         exact fT rfl (.t rfl) (⟨by (rw [hst]; exact congrArg Value.bool (decide_eq_false c1).symm), rfl, by (rw [hst]; done)⟩)
end Go.Proofs.YtbolanigdkgbdaaGreat
namespace Go.Proofs.YtbolanigdkgbdaaGreat
open Go Go.RowKit
set_option maxRecDepth 10000
set_option linter.unusedVariables false
theorem bt_90 : buildTab Tryz.prog 90 = some (#[.int .i64 0, .int .i64 0, .int .i64 0, .int .i64 0, .int .i64 0, .int .i64 0, .int .i64 0, .int .i64 0, .int .i64 0, .int .i64 0, .int .i64 0, .int .i64 0, .int .i64 0, .int .i64 0, .map none], [(0, 4), (4, 1), (5, 1), (6, 1), (7, 1), (8, 1), (9, 1), (10, 1), (11, 1), (12, 1), (13, 1), (14, 1)]) := by kernel_rfl
def IsL (x : Lk) : Value → Hp → Hp → Prop := fun v N H => ∃ b bm, v = .pointer (some ⟨b, 0, none⟩) ∧ N = [lkB b bm x, lkM bm x] ∧ H = []
theorem k_New {a b c d chunk lo hi most : Int} : Fn Tryz.prog 14 [.agg #[.int .i64 a, .int .i64 b, .int .i64 c, .int .i64 d], .int .i64 chunk, .int .i64 lo, .int .i64 hi, .int .i64 most] ([]) ([]) (IsL (⟨a, b, c, d, chunk, lo, hi, most, 1, 0, -1, 0, 0, 0, []⟩ : Lk)) := by
 refine Fn.enter Tryz.func14 (by kernel_rfl) rfl (n := 19) rfl rfl (fun w => ?_)
 refine W ?_
 refine At.box rfl rfl rfl (.t rfl) (fun b1 hb1 => ⟨.all, ?_⟩)
 refine W ?_
 refine At.makeMap kfZ vfT rfl rfl rfl (fun b2 hb2 => ⟨.all, ?_⟩)
 refine eA rfl (R.build bt_90 (.k rfl (.k rfl (.k rfl (.k rfl (.k rfl (.kc (.cons .c (.k rfl .nil)))))))) (.cons rfl (.cons rfl (.cons rfl (.cons rfl (.cons rfl (.cons rfl (.cons rfl (.cons rfl .nil)))))))) rfl) ?_
 refine At.box rfl rfl rfl (.t rfl) (fun b3 hb3 => ⟨.all, ?_⟩)
 refine W ?_
 exact At.final (N' := [lkB b3 b2 (⟨a, b, c, d, chunk, lo, hi, most, 1, 0, -1, 0, 0, 0, []⟩ : Lk), lkM b2 (⟨a, b, c, d, chunk, lo, hi, most, 1, 0, -1, 0, 0, 0, []⟩ : Lk)]) rfl (.t rfl) sl (⟨b3, b2, rfl, rfl, rfl⟩)
end Go.Proofs.YtbolanigdkgbdaaGreat
namespace Go.Proofs.YtbolanigdkgbdaaGreat
open Go Go.RowKit
set_option maxRecDepth 10000
set_option linter.unusedVariables false
theorem take_snocT {α : Type} [Inhabited α] {l : List α} {i : Nat} (h : i < l.length) : l.take (i + 1) = l.take i ++ [gE l (i : Int)] := by
  rw [List.take_succ_eq_append_getElem h]; simp [gE, h]
theorem sortZ_perm (l : List Int) : (sortZ l).Perm l := List.mergeSort_perm l _
theorem sortZ_rise (l : List Int) : (sortZ l).Pairwise (· ≤ ·) := by
  have := List.pairwise_mergeSort (le := fun x y : Int => decide (x ≤ y)) (by intro a b c h1 h2; simp at *; omega) (by intro a b; simp; omega) l
  exact this.imp fun {a b} h => by simpa using h
theorem m_Keys {b : Nat} : Fn Tryz.prog 59 [.map (some b)] ([]) ([]) (fun v N H => ∃ bm, v = .func (.func 88) #[] #[.pointer (some ⟨bm, 0, none⟩)] ∧ N = [.blk bm (.cells #[.map (some b)] 88)] ∧ H = []) := by
 refine Fn.enter Tryz.func59 (by kernel_rfl) rfl (n := 4) rfl rfl (fun w => ?_)
 refine W ?_
 refine At.box rfl rfl rfl (.t rfl) (fun b1 hb1 => ⟨.all, ?_⟩)
 refine W ?_
 refine eA rfl (R.makeFunc .nil (.k rfl .nil)) ?_
 refine W ?_
 exact At.final (N' := [.blk b1 (.cells #[.map (some b)] 88)]) rfl (.t rfl) (List.Sublist.refl _) (⟨b1, rfl, rfl, rfl⟩)
theorem m_Sorted {bm b : Nat} {ml : List (Int × Itm)} (hN : ml.length ≤ 1000000) : Fn Tryz.prog 58 [.func (.func 88) #[] #[.pointer (some ⟨bm, 0, none⟩)]] ([mapE kfZ vfT b ml, .blk bm (.cells #[.map (some b)] 88)]) ([]) (IsRE zK 3 (fun ys => ys.Perm (ml.map (·.1)) ∧ ys.Pairwise (· ≤ ·))) := by
 refine Fn.enter Tryz.func58 (by kernel_rfl) rfl (n := 9) rfl rfl (fun w => ?_)
 refine W ?_
 refine cP rfl rfl rfl (.k rfl .nil) rfl (c_collect (bm := bm) (b := b) (ml := ml) hN) (Rds.blk (.st M0) (Rds.blk (.st M1) .nil)).all (fun v N1 H1 hR => ?_); obtain ⟨xs, hxs, rfl, rfl⟩ := hR; have hxl : xs.length = ml.length := (by rw [hxs.length_eq, List.length_map]); refine ⟨rfl, .all, ?_⟩
 refine W ?_
 refine cM rfl rfl rfl (.k rfl .nil) rfl (.n (.take .nil)) .nil (c_sortM (l := xs) (n := xs.length) rfl (by omega)) rfl .nil ⟨.all, ?_⟩
 refine W ?_
 refine At.re (N' := [rowE zK 3 v (sortZ xs)]) (by rw [rowE, sortZ_length]; rfl) ?_
 exact At.final (N' := [rowE zK 3 v (sortZ xs)]) rfl (.t rfl) (List.Sublist.refl _) (⟨sortZ xs, ⟨(sortZ_perm xs).trans hxs, sortZ_rise xs⟩, rfl, rfl⟩)
theorem k_Items {b bm : Nat} {x : Lk} (hN : x.ml.length ≤ 1000) : Fn Tryz.prog 23 [.pointer (some ⟨b, 0, none⟩)] ([lkB b bm x, lkM bm x]) ([]) (IsRE iK 43 (fun zs => ∃ ys : List Int, ys.Perm (x.ml.map (·.1)) ∧ ys.Pairwise (· ≤ ·) ∧ zs = ys.map fun k => (aget x.ml k).getD default)) := by
 refine Fn.enter Tryz.func23 (by kernel_rfl) rfl (n := 28) rfl rfl (fun w => ?_)
 refine W ?_
 refine cP rfl rfl rfl (.k rfl .nil) rfl (m_Keys (b := bm)) (fun _ h => nomatch h) (fun v N1 H1 hR => ?_); obtain ⟨bq, rfl, rfl, rfl⟩ := hR; refine ⟨rfl, .all, ?_⟩
 refine cP rfl rfl rfl (.k rfl .nil) rfl (m_Sorted (bm := bq) (b := bm) (ml := x.ml) (by omega)) (Rds.blk (.st M1) (Rds.blk (.st M2) .nil)).all (fun vk N1 H1 hR => ?_); obtain ⟨ys, hys, rfl, rfl⟩ := hR; have hyl : ys.length = x.ml.length := (by rw [hys.1.length_eq, List.length_map]); refine ⟨rfl, .all, ?_⟩
 refine W ?_
 refine At.nilRow iK 43 ?_
 refine At.loop3 (fun (i : Nat) (out : List Itm) (vo : Value) => i ≤ ys.length ∧ out = (ys.take i).map (fun k => (aget x.ml k).getD default) ∧ out.length = i) (fun (i : Nat) (out : List Itm) (vo : Value) => ys.length - i) (fun (i : Nat) (out : List Itm) (vo : Value) => [(0, true, .pointer (some ⟨b, 0, none⟩)), (3, true, vo), (11, true, vk), (12, true, .int .i64 ys.length), (13, true, .int .i64 i)]) (fun (i : Nat) (out : List Itm) (vo : Value) => [rowE iK 43 vo out, rowE zK 3 vk ys]) (fun (i : Nat) (out : List Itm) (vo : Value) => []) (0) ([]) (.slice none 0 0) ⟨Nat.zero_le _, rfl, rfl⟩ (.cons rfl (.cons rfl (.cons rfl (.cons rfl (.cons rfl .nil))))) sl rfl (fun i out vo hi => ?_)
 obtain ⟨hi1, hi2, hi3⟩ := hi
 refine Z ?_
 refine At.condD (.t rfl) (fun c1 => ?_) (fun c1 => ?_)
 ·
  refine W ?_
  refine eA rfl (R.as (R.lookup (kf := kfZ) (vf := vfT) Tryz.underlying88 (keyOk_int Tryz.underlying3) ze_43 (.t rfl) (.t rfl) (Holds.st M1)) (fun _ => agetT x.ml (gE ys (i : Int)))) ?_
  refine At.lit (k := iK) rfl rfl rfl Tryz.underlying40 et_43 (.k rfl .nil) (.cons rfl .nil) rfl rfl rfl (fun v1 => ⟨.all, ?_⟩)
  refine At.app (k := iK) rfl rfl rfl Tryz.underlying40 et_43 (.t rfl) (.t rfl) (fun _ => by (exact U1)) (wS M2) (by (simp <;> omega)) (fun v2 => ⟨.all, ?_⟩)
  refine W ?_
  exact At.again3 (i + 1) (out ++ [(aget x.ml (gE ys (i : Int))).getD default]) (v2) ⟨by omega, by rw [hi2, take_snocT (by omega), List.map_append]; rfl, by simp; omega⟩ (by omega) (.cons rfl (.cons rfl (.cons rfl (.cons rfl (.cons rfl .nil))))) sl rfl
 ·
  refine W ?_
  exact At.final (N' := [rowE iK 43 vo out]) rfl (.t rfl) sl (⟨out, ⟨ys, hys.1, hys.2, by rw [hi2, List.take_of_length_le (by omega)]⟩, rfl, rfl⟩)
end Go.Proofs.YtbolanigdkgbdaaGreat
namespace Go.Proofs.YtbolanigdkgbdaaGreat
open Go Go.RowKit
set_option maxRecDepth 10000
set_option linter.unusedVariables false
theorem bt_127 : buildTab Tryz.prog 127 = some (#[.int .i64 0, .int .i64 0, .int .i64 0], [(0, 1), (1, 1), (2, 1)]) := by kernel_rfl
theorem bt_128 : buildTab Tryz.prog 128 = some (#[.int .i64 0, .int .i64 0, .int .i64 0, .int .i64 0, .int .i64 0, .int .i64 0, .int .i64 0, .int .i64 0, .int .i64 0, .int .i64 0, .int .i64 0, .int .i64 0], [(0, 3), (3, 3), (6, 3), (9, 3)]) := by kernel_rfl
theorem sz_127 : (Tryz.prog.info? 127).map (·.size) = some 3 := by kernel_rfl
theorem ze_127 : (Tryz.prog.info? 127).bind (·.zero) = some (.agg #[.int .i64 0, .int .i64 0, .int .i64 0]) := by kernel_rfl
abbrev vfZ : Int → Value := fun k => .int .i64 k
abbrev isX (a b c d : Int) (i : Nat) : Int := if i = 0 then a else if i = 1 then b else if i = 2 then d else c
abbrev isL (a : Int) (i : Nat) : Int := if i = 1 then a else 1
abbrev isH (i : Nat) : Int := if i = 0 then 8 else if i = 1 then 16 else if i = 2 then 1048576 else 20000
def okC (a b c d : Int) : Prop := 1 ≤ a ∧ a ≤ 8 ∧ a + 2 ≤ b ∧ b ≤ 16 ∧ 1 ≤ d ∧ d ≤ 1048576 ∧ 1 ≤ c ∧ c ≤ 20000 ∧ 21 + a + 3 * b ≤ c
theorem okC_row {a b c d : Int} (h : okC a b c d) (i : Nat) : isL a i ≤ isX a b c d i ∧ isX a b c d i ≤ isH i := by
  obtain ⟨h1, h2, h3, h4, h5, h6, h7, h8, h9⟩ := h
  unfold isL isX isH
  by_cases e0 : i = 0
  · simp [e0]; omega
  · by_cases e1 : i = 1
    · simp [e1]; omega
    · by_cases e2 : i = 2
      · simp [e2]; omega
      · simp [e0, e1, e2]; omega
theorem is_row {P : Program} {a b c d : Int} {i : Nat} (hT : P.underlying 127 = some (.array 3 3)) (hs : (P.info? 127).map (·.size) = some 3) (hi : i < 4) (w : World) : (part 127 #[.int .i64 a, .int .i64 1, .int .i64 8, .int .i64 b, .int .i64 a, .int .i64 16, .int .i64 d, .int .i64 1, .int .i64 1048576, .int .i64 c, .int .i64 1, .int .i64 20000] (((i : Int)).toNat * 3)).run P w = .ok (.agg #[.int .i64 (isX a b c d i), .int .i64 (isL a i), .int .i64 (isH i)]) w := by
  rw [run_part_arr hT hs]
  rcases (by omega : i = 0 ∨ i = 1 ∨ i = 2 ∨ i = 3) with rfl | rfl | rfl | rfl <;> rfl
def cntB (i : Nat) : List (Bool × Int) := if i = 0 then [] else [(true, (i : Int))]
theorem cntB_get (i : Nat) : agetV vfZ (.int .i64 0) (cntB i) true = .int .i64 i := by
  unfold cntB
  split
  · rename_i h; subst h; rfl
  · rfl
theorem cntB_none (i : Nat) : agetV vfZ (.int .i64 0) (cntB i) false = .int .i64 0 := by
  unfold cntB
  split <;> rfl
theorem cntB_put (i : Nat) : aput (cntB i) true ((i : Int) + 1) = cntB (i + 1) := by
  unfold cntB
  split
  · rename_i h; subst h; rfl
  · rw [if_neg (by omega)]; simp [aput, aidx]
theorem p_Is {a b c d : Int} (hc : okC a b c d) : Fn Tryz.prog 68 [.agg #[.int .i64 a, .int .i64 b, .int .i64 c, .int .i64 d]] ([]) ([]) (IsV .nilIface) := by
 refine Fn.enter Tryz.func68 (by kernel_rfl) rfl (n := 61) rfl rfl (fun w => ?_)
 have hrow := okC_row hc
 obtain ⟨h1, h2, h3, h4, h5, h6, h7, h8, h9⟩ := hc
 refine W ?_
 refine At.box rfl rfl rfl (.t rfl) (fun b1 hb1 => ⟨.all, ?_⟩)
 refine W ?_
 refine At.makeMap kfB vfZ rfl rfl rfl (fun b2 hb2 => ⟨.all, ?_⟩)
 refine W ?_
 refine eA rfl (R.build bt_127 (.k rfl (.kc (.kc .nil))) (.cons rfl (.cons rfl (.cons rfl .nil))) rfl) ?_
 refine W ?_
 refine eA rfl (R.build bt_127 (.k rfl (.k rfl (.kc .nil))) (.cons rfl (.cons rfl (.cons rfl .nil))) rfl) ?_
 refine W ?_
 refine eA rfl (R.build bt_127 (.k rfl (.kc (.kc .nil))) (.cons rfl (.cons rfl (.cons rfl .nil))) rfl) ?_
 refine W ?_
 refine eA rfl (R.build bt_127 (.k rfl (.kc (.kc .nil))) (.cons rfl (.cons rfl (.cons rfl .nil))) rfl) ?_
 refine eA rfl (R.as (R.build bt_128 (.k rfl (.k rfl (.k rfl (.k rfl .nil)))) (.cons rfl (.cons rfl (.cons rfl (.cons rfl .nil)))) rfl) (fun _ => (rfl : Value.agg _ = .agg #[.int .i64 a, .int .i64 1, .int .i64 8, .int .i64 b, .int .i64 a, .int .i64 16, .int .i64 d, .int .i64 1, .int .i64 1048576, .int .i64 c, .int .i64 1, .int .i64 20000]))) ?_
 refine W ?_
 refine At.loop1 (fun (i : Nat) => i ≤ 4) (fun (i : Nat) => 4 - i) (fun (i : Nat) => [(1, true, .pointer (some ⟨b1, 0, none⟩)), (2, true, .nilIface), (3, true, .map (some b2)), (21, true, .agg #[.int .i64 a, .int .i64 1, .int .i64 8, .int .i64 b, .int .i64 a, .int .i64 16, .int .i64 d, .int .i64 1, .int .i64 1048576, .int .i64 c, .int .i64 1, .int .i64 20000]), (22, true, .int .i64 i)]) (fun (i : Nat) => [mapE kfB vfZ b2 (cntB i), .blk b1 (.cells #[.int .i64 a, .int .i64 b, .int .i64 c, .int .i64 d] 23)]) (fun (i : Nat) => []) (0) (Nat.zero_le _) (.cons rfl (.cons rfl (.cons rfl (.cons rfl (.cons rfl .nil))))) (List.Sublist.refl _) rfl (fun i hi => ?_)
 refine Z ?_
 refine At.condD (.t rfl) (fun c1 => ?_) (fun c1 => ?_)
 ·
  obtain ⟨hr1, hr2⟩ := hrow i
  refine W ?_
  refine eA rfl (R.indexAgg Tryz.underlying128 sz_127 (.t rfl) (.t rfl) (by omega) (is_row Tryz.underlying127 sz_127 (by omega))) ?_
  refine At.alloc rfl rfl rfl ze_127 (fun b3 hb3 => ⟨.all, ?_⟩)
  refine At.stN rfl rfl sz_127 (.t rfl) (.t rfl) rfl rfl rfl (.n U0) ⟨.all, ?_⟩
  refine W ?_
  refine eA rfl (R.indexArr Tryz.underlying127 sz_3 (.t rfl) .c gO) ?_
  refine W ?_
  refine eA rfl (R.indexArr Tryz.underlying127 sz_3 (.t rfl) .c gO) ?_
  refine W ?_
  refine eA rfl (R.as (R.geq (.t rfl) (.t rfl)) dT) ?_
  refine W ?_
  refine eA rfl (R.indexArr Tryz.underlying127 sz_3 (.t rfl) .c gO) ?_
  refine W ?_
  refine eA rfl (R.indexArr Tryz.underlying127 sz_3 (.t rfl) .c gO) ?_
  refine W ?_
  refine eA rfl (R.as (R.leq (.t rfl) (.t rfl)) (fun _ => congrArg Value.bool (decide_eq_true hr2))) ?_
  refine W ?_
  refine eA rfl (R.as (R.lookup (kf := kfB) (vf := vfZ) Tryz.underlying126 (keyOk_bool Tryz.underlying4) ze_3 (.t rfl) (.t rfl) (Holds.st M1)) (fun _ => cntB_get i)) ?_
  refine W ?_
  refine At.mapUp (kf := kfB) (vf := vfZ) (ml := cntB i) (k := true) (v := (i : Int) + 1) rfl rfl Tryz.underlying126 (keyOk_bool Tryz.underlying4) (.t rfl) (.t rfl) (.t rfl) (.n U1) ⟨.all, ?_⟩
  refine W ?_
  refine At.weak (fun _ _ h => h) (N' := [mapE kfB vfZ b2 (cntB (i + 1)), .blk b1 (.cells #[.int .i64 a, .int .i64 b, .int .i64 c, .int .i64 d] 23)]) (by rw [← cntB_put]; exact sl) ?_
  refine W ?_
  exact At.again1 (i + 1) (by omega) (by omega) (.cons rfl (.cons rfl (.cons rfl (.cons rfl (.cons rfl .nil))))) (List.Sublist.refl _) rfl
 ·
  refine W ?_
  refine eA rfl (R.as (R.lookup (kf := kfB) (vf := vfZ) Tryz.underlying126 (keyOk_bool Tryz.underlying4) ze_3 (.t rfl) .c (Holds.st M0)) (fun _ => cntB_none _)) ?_
  refine eA rfl (R.as (R.gtr (.t rfl) .c) dF) ?_
  refine W ?_
  refine eA rfl (R.as (R.lss (.t rfl) (.t rfl)) dF) ?_
  refine W ?_
  refine At.drawK [tt 0, tt 2, tt 3, ff 1, tt 4, tt 5] (by kernel_rfl) (by kernel_rfl) ?_
  refine W ?_
  refine At.callVR rfl rfl rfl (.k rfl .nil) (.nil) (fun hg => p_Top (by omega) (by omega) (by omega) (by omega)) kI ?_
  refine sJ rfl (R.as (R.gtr (.t rfl) (.t rfl)) dF) ?_
  refine W ?_
  exact fT rfl (.t rfl) (⟨rfl, rfl, rfl⟩)
end Go.Proofs.YtbolanigdkgbdaaGreat
namespace Go.Proofs.YtbolanigdkgbdaaGreat
open Go Go.RowKit
set_option maxRecDepth 10000
set_option linter.unusedVariables false
def pkA (ml : List (Int × Int)) (seen : List Nat) (A : Ar) : Ar := seen.foldl (fun (A : Ar) (j : Nat) => A.poke (gE ml (j : Int)).1 (gE ml (j : Int)).2) A
theorem pkA_snoc {ml : List (Int × Int)} {seen : List Nat} {A : Ar} {j : Nat} : pkA ml (seen ++ [j]) A = (pkA ml seen A).poke (gE ml (j : Int)).1 (gE ml (j : Int)).2 := by simp [pkA, List.foldl_append]
theorem pkA_len {ml : List (Int × Int)} {seen : List Nat} {A : Ar} : (pkA ml seen A).w.length = A.w.length := by
  unfold pkA
  induction seen generalizing A with
  | nil => rfl
  | cons x seen ih => rw [List.foldl_cons, ih, Ar.poke_len]
def mkA (a b : Int) (c : Nat) : Ar := (((⟨List.replicate c 0, 0, 0, 0, 0, 0, 0, 0, 0, 0, false⟩ : Ar).poke 2 (21 + a + 3 * b)).poke (7 + a) (-1)).poke (9 + a) (28 + 2 * a)
def IsMk (a b : Int) (c : Nat) : Value → Hp → Hp → Prop := fun v N H => ∃ ba wv x, x = mkA a b c ∧ v = .tuple #[.pointer (some ⟨ba, 0, none⟩), .nilIface] ∧ N = [arB ba wv x, arW wv c x] ∧ H = []
theorem Ar.poke_yes {A : Ar} {i x : Int} (h : A.hit i = true) : A.poke i x = ⟨A.w.set i.toNat x, A.d0, A.d1, A.d2, A.d3, A.d4, A.k, A.at_, A.old, A.nw, A.ok⟩ := by unfold Ar.poke; rw [if_pos h]
theorem Ar.poke_no {A : Ar} {i x : Int} (h : ¬ A.hit i = true) : A.poke i x = A := by unfold Ar.poke; rw [if_neg h]
theorem Ar.poke_hit (A : Ar) (i x j : Int) : (A.poke i x).hit j = A.hit j := by unfold Ar.hit; rw [Ar.poke_len]
theorem Ar.poke_comm {A : Ar} {i j x y : Int} (h : i ≠ j) : (A.poke i x).poke j y = (A.poke j y).poke i x := by
  by_cases h1 : A.hit i = true
  · by_cases h2 : A.hit j = true
    · have e1 := Ar.poke_yes (A := A.poke i x) (i := j) (x := y) (by rw [Ar.poke_hit]; exact h2)
      have e2 := Ar.poke_yes (A := A.poke j y) (i := i) (x := x) (by rw [Ar.poke_hit]; exact h1)
      rw [e1, e2, Ar.poke_yes h1, Ar.poke_yes h2]
      obtain ⟨q1, _⟩ := Ar.hit_yes h1
      obtain ⟨q2, _⟩ := Ar.hit_yes h2
      show (⟨(A.w.set i.toNat x).set j.toNat y, _, _, _, _, _, _, _, _, _, _⟩ : Ar) = ⟨(A.w.set j.toNat y).set i.toNat x, _, _, _, _, _, _, _, _, _, _⟩
      rw [List.set_comm _ _ (by omega : i.toNat ≠ j.toNat)]
    · rw [Ar.poke_no (A := A.poke i x) (by rw [Ar.poke_hit]; exact h2), Ar.poke_no h2]
  · rw [Ar.poke_no h1, Ar.poke_no (A := A.poke j y) (by rw [Ar.poke_hit]; exact h1)]
theorem mk_all {a b : Int} {c : Nat} {A0 : Ar} {ml : List (Int × Int)} {seen : List Nat} (h1 : 1 ≤ a) (hA0 : (⟨List.replicate c 0, 0, 0, 0, 0, 0, 0, 0, 0, 0, false⟩ : Ar) = A0) (hml : ml.Perm [((2 : Int), 21 + a + 3 * b), (7 + a + 0, (-1 : Int)), (7 + a + 2, 2 * (14 + a))]) (hn : seen.Nodup) (hs : ∀ j ∈ seen, j < ml.length) (hall : ∀ j, j < ml.length → j ∈ seen) : pkA ml seen A0 = mkA a b c := by
  have e1 : pkA ml seen A0 = (seen.map fun j : Nat => gE ml (j : Int)).foldl (fun A e => A.poke e.1 e.2) A0 := by unfold pkA; rw [List.foldl_map]
  have hp : seen.Perm (List.range ml.length) := (List.perm_ext_iff_of_nodup hn List.nodup_range).2 fun j => by
    rw [List.mem_range]; exact ⟨hs j, hall j⟩
  have e2 : (List.range ml.length).map (fun j : Nat => gE ml (j : Int)) = ml := by
    apply List.ext_getElem
    · simp
    · intro i h1 h2; simp [gE, h2]
  have hp2 : (seen.map fun j : Nat => gE ml (j : Int)).Perm [((2 : Int), 21 + a + 3 * b), (7 + a + 0, (-1 : Int)), (7 + a + 2, 2 * (14 + a))] := by
    have := hp.map (fun j : Nat => gE ml (j : Int))
    rw [e2] at this
    exact this.trans hml
  rw [e1, hp2.foldl_eq' fun x hx y hy z => ?_]
  · subst hA0
    show ((Ar.poke _ 2 _).poke (7 + a + 0) (-1)).poke (7 + a + 2) (2 * (14 + a)) = mkA a b c
    unfold mkA
    rw [show 7 + a + 0 = 7 + a by omega, show 7 + a + 2 = 9 + a by omega, show 2 * (14 + a) = 28 + 2 * a by omega]
  · by_cases he : x.1 = y.1
    · have hx' := hp2.mem_iff.1 hx
      have hy' := hp2.mem_iff.1 hy
      simp at hx' hy'
      rcases hx' with rfl | rfl | rfl <;> rcases hy' with rfl | rfl | rfl <;> first | rfl | (exfalso; simp at he; omega)
    · exact Ar.poke_comm he
theorem p_Make {a b d : Int} {c : Nat} (hc : okC a b c d) : Fn Tryz.prog 35 [.agg #[.int .i64 a, .int .i64 b, .int .i64 (c : Int), .int .i64 d]] ([]) ([]) (IsMk a b c) := by
 refine Fn.enter Tryz.func35 (by kernel_rfl) rfl (n := 40) rfl rfl (fun w => ?_)
 have hc0 := hc
 obtain ⟨h1, h2, h3, h4, h5, h6, h7, h8, h9⟩ := hc
 refine W ?_
 refine At.box rfl rfl rfl (.t rfl) (fun b1 hb1 => ⟨.all, ?_⟩)
 refine W ?_
 refine At.callVR rfl rfl rfl (.k rfl .nil) (.nil) (fun hg => p_Is hc0) .all ?_
 refine W ?_
 refine eA rfl (R.neqNilI Tryz.underlying70 (.t rfl)) ?_
 refine W ?_
 refine cP rfl rfl rfl (.k rfl .nil) rfl (a_New (n := c) (by omega)) (fun _ h => nomatch h) (fun v N1 H1 hR => ?_); obtain ⟨ba, wv, rfl, rfl, rfl⟩ := hR; refine ⟨rfl, .all, ?_⟩; generalize hA0 : (⟨List.replicate c 0, 0, 0, 0, 0, 0, 0, 0, 0, 0, false⟩ : Ar) = A0
 refine W ?_
 let F13 : Nat → Nat → Fr := fun bm q => [(16, true, .map (some bm)), (17, true, .agg #[.int .i64 a, .int .i64 b, .int .i64 (c : Int), .int .i64 d]), (18, iv (21 + a + 3 * b)), (19, true, .agg #[.int .i64 a, .int .i64 b, .int .i64 (c : Int), .int .i64 d]), (20, iv (7 + a)), (21, iv (7 + a + 0)), (22, true, .agg #[.int .i64 a, .int .i64 b, .int .i64 (c : Int), .int .i64 d]), (23, iv (7 + a)), (24, iv (7 + a + 2)), (25, true, .agg #[.int .i64 a, .int .i64 b, .int .i64 (c : Int), .int .i64 d]), (26, iv (14 + a)), (27, iv (2 * (14 + a))), (28, true, .map (some bm)), (29, pt q 0), (1, pt b1 0), (5, pt ba 0)]
 refine At.dag [tt 1, tt 4, tt 8, tt 11] 13 (mT 17 [1, 4, 8, 11]) ([.blk b1 (.cells #[.int .i64 a, .int .i64 b, .int .i64 (c : Int), .int .i64 d] 23)]) (keepOf sl) (by kernel_rfl) (by kernel_rfl) (fun G hnode hdone => ?_)
 have g0 : ∀ (bm q : Nat) (ml : List (Int × Int)) (hml : ml.Perm [((2 : Int), 21 + a + 3 * b), (7 + a + 0, (-1 : Int)), (7 + a + 2, 2 * (14 + a))]), At w 40 [] (fs (F13 bm q) 65535) (itE q bm ml [] :: mapE kfZ vfZ bm ml :: [arB ba wv A0, arW wv c A0, .blk b1 (.cells #[.int .i64 a, .int .i64 b, .int .i64 (c : Int), .int .i64 d] 23)]) ([]) (G 0 (mF 17 [])) := fun bm q ml hml => by
  refine hdone _ _ _ (by kernel_rfl) ?_
  refine W ?_
  refine At.loop1 (fun (seen : List Nat) => seen.Nodup ∧ ∀ j ∈ seen, j < ml.length) (fun (seen : List Nat) => ml.length - seen.length) (fun (seen : List Nat) => [(5, true, .pointer (some ⟨ba, 0, none⟩)), (29, true, .pointer (some ⟨q, 0, none⟩))]) (fun (seen : List Nat) => [itE q bm ml seen, mapE kfZ vfZ bm ml, arB ba wv (pkA ml seen A0), arW wv c (pkA ml seen A0)]) (fun (seen : List Nat) => []) ([]) ⟨List.nodup_nil, by simp⟩ (.cons rfl (.cons rfl .nil)) sl rfl (fun seen hi => ?_)
  obtain ⟨hs1, hs2⟩ := hi; have hsb := nodup_bound _ _ hs1 hs2
  refine W ?_
  refine At.mapNextO (kf := kfZ) (vf := vfZ) (ml := ml) (seen := seen) rfl rfl rfl (.t rfl) M1 (fun o => .here) (fun o ho => ⟨.all, ?_⟩)
  refine eA rfl (R.extractNext (.t rfl)) ?_
  refine W ?_
  refine At.cond (.t rfl) (fun c2 => ?_) (fun c2 => ?_)
  ·
   obtain ⟨j, rfl⟩ : ∃ j, o = some j := (by cases o with | none => simp at c2 | some j => exact ⟨j, rfl⟩); obtain ⟨hj1, hj2⟩ := ho.2 j rfl
   refine W ?_
   refine eA rfl (R.entry (kf := kfZ) (vf := vfZ) (ml := ml) (seen := seen) (j := j) (.t rfl) (Holds.st M1) (Holds.st M0) hj1) ?_
   refine W ?_
   refine cM rfl rfl rfl (.k rfl (.k rfl (.k rfl .nil))) rfl (.n (.skip (.skip (.take (.take .nil))))) .nil (a_Poke (n := c) (a := (pkA ml seen A0)) (by rw [pkA_len, ← hA0]; exact List.length_replicate) (by omega)) rfl .nil ⟨.all, ?_⟩
   refine W ?_
   refine At.re (N' := [itE q bm ml (seen ++ [j]), mapE kfZ vfZ bm ml, arB ba wv (pkA ml (seen ++ [j]) A0), arW wv c (pkA ml (seen ++ [j]) A0)]) (by rw [pkA_snoc]; rfl) ?_
   refine W ?_
   exact At.again1 (seen ++ [j]) ⟨(List.nodup_append.2 ⟨hs1, by simp, fun x hx y hy => by simp at hy; subst hy; intro e; subst e; exact hj2 hx⟩), fun x hx => by rcases List.mem_append.1 hx with h | h; exact hs2 x h; simp at h; subst h; exact hj1⟩ (by have h := nodup_bound ml.length (seen ++ [j]) (List.nodup_append.2 ⟨hs1, by simp, fun x hx y hy => by simp at hy; subst hy; intro e; subst e; exact hj2 hx⟩) (fun x hx => by rcases List.mem_append.1 hx with h | h; exact hs2 x h; simp at h; subst h; exact hj1); rw [List.length_append] at *; simp at *; omega) (.cons rfl (.cons rfl .nil)) (List.Sublist.refl _) rfl
  ·
   have hon : o = none := (by cases o with | none => rfl | some j => simp at c2); have hall := ho.1 hon; subst hon
   refine W ?_
   exact At.final2 (N' := [arB ba wv (pkA ml seen A0), arW wv c (pkA ml seen A0)]) rfl (.t rfl) (.t rfl) sl (⟨ba, wv, pkA ml seen A0, mk_all h1 hA0 hml hs1 hs2 hall, rfl, rfl, rfl⟩)
 have g1 : ∀ (bm : Nat) (ml : List (Int × Int)) (hml : ml.Perm [((2 : Int), 21 + a + 3 * b), (7 + a + 0, (-1 : Int)), (7 + a + 2, 2 * (14 + a))]), At w 40 [] (fs (F13 bm 0) 57343) (mapE kfZ vfZ bm ml :: [arB ba wv A0, arW wv c A0, .blk b1 (.cells #[.int .i64 a, .int .i64 b, .int .i64 (c : Int), .int .i64 d] 23)]) ([]) (G 1 (mF 17 [16])) := fun bm ml hml => by
  refine hnode _ _ _ _ [(16, [], 0, (mF 17 []))] (by kernel_rfl) kz ?_
  ·
   refine At.rangeMap (kf := kfZ) (vf := vfZ) (ml := ml) rfl rfl rfl Tryz.underlying107 (.t rfl) M0 (fun b2 hb2 => ⟨kz, ?_⟩)
   refine W ?_
   exact wk (g0 bm b2 ml hml)
 have g2 : ∀ (bm : Nat) (ml : List (Int × Int)) (hml : ml.Perm [((2 : Int), 21 + a + 3 * b), (7 + a + 0, (-1 : Int))]), At w 40 [] (fs (F13 bm 0) 53247) (mapE kfZ vfZ bm ml :: [arB ba wv A0, arW wv c A0, .blk b1 (.cells #[.int .i64 a, .int .i64 b, .int .i64 (c : Int), .int .i64 d] 23)]) ([]) (G 3 (mF 17 [14, 15, 16])) := fun bm ml hml => by
  refine hnode _ _ _ _ [(14, [tt 15], 1, (mF 17 [16]))] (by kernel_rfl) kz ?_
  ·
   refine At.mapIns (kf := kfZ) (vf := vfZ) (ml := ml) (k := ((7 + a + 2, 2 * (14 + a))).1) (v := ((7 + a + 2, 2 * (14 + a))).2) rfl rfl Tryz.underlying107 (keyOk_int Tryz.underlying3) (.t rfl) (.t rfl) (.t rfl) (.n U0) ⟨kz, ?_⟩
   refine W ?_
   exact wk (g1 bm (aput ml ((7 + a + 2, 2 * (14 + a))).1 ((7 + a + 2, 2 * (14 + a))).2) ((perm_put hml (by intro e he; (simp at he; rcases he with rfl | rfl <;> simp <;> omega))).trans (.refl _)))
 have g3 : ∀ (bm : Nat) (ml : List (Int × Int)) (hml : ml.Perm [((2 : Int), 21 + a + 3 * b), (7 + a + 2, 2 * (14 + a))]), At w 40 [] (fs (F13 bm 0) 53247) (mapE kfZ vfZ bm ml :: [arB ba wv A0, arW wv c A0, .blk b1 (.cells #[.int .i64 a, .int .i64 b, .int .i64 (c : Int), .int .i64 d] 23)]) ([]) (G 3 (mF 17 [7, 15, 16])) := fun bm ml hml => by
  refine hnode _ _ _ _ [(7, [tt 15], 1, (mF 17 [16]))] (by kernel_rfl) kz ?_
  ·
   refine At.mapIns (kf := kfZ) (vf := vfZ) (ml := ml) (k := ((7 + a + 0, (-1 : Int))).1) (v := ((7 + a + 0, (-1 : Int))).2) rfl rfl Tryz.underlying107 (keyOk_int Tryz.underlying3) (.t rfl) (.t rfl) .c (.n U0) ⟨kz, ?_⟩
   refine W ?_
   exact wk (g1 bm (aput ml ((7 + a + 0, (-1 : Int))).1 ((7 + a + 0, (-1 : Int))).2) ((perm_put hml (by intro e he; (simp at he; rcases he with rfl | rfl <;> simp <;> omega))).trans (perm_xzy)))
 have g4 : ∀ (bm : Nat) (ml : List (Int × Int)) (hml : ml.Perm [(7 + a + 0, (-1 : Int)), (7 + a + 2, 2 * (14 + a))]), At w 40 [] (fs (F13 bm 0) 53247) (mapE kfZ vfZ bm ml :: [arB ba wv A0, arW wv c A0, .blk b1 (.cells #[.int .i64 a, .int .i64 b, .int .i64 (c : Int), .int .i64 d] 23)]) ([]) (G 3 (mF 17 [3, 15, 16])) := fun bm ml hml => by
  refine hnode _ _ _ _ [(3, [tt 15], 1, (mF 17 [16]))] (by kernel_rfl) kz ?_
  ·
   refine At.mapIns (kf := kfZ) (vf := vfZ) (ml := ml) (k := (((2 : Int), 21 + a + 3 * b)).1) (v := (((2 : Int), 21 + a + 3 * b)).2) rfl rfl Tryz.underlying107 (keyOk_int Tryz.underlying3) (.t rfl) .c (.t rfl) (.n U0) ⟨kz, ?_⟩
   refine W ?_
   exact wk (g1 bm (aput ml (((2 : Int), 21 + a + 3 * b)).1 (((2 : Int), 21 + a + 3 * b)).2) ((perm_put hml (by intro e he; (simp at he; rcases he with rfl | rfl <;> simp <;> omega))).trans (perm_yzx)))
 have g5 : ∀ (bm : Nat) (ml : List (Int × Int)) (hml : ml.Perm [((2 : Int), 21 + a + 3 * b)]), At w 40 [] (fs (F13 bm 0) 53247) (mapE kfZ vfZ bm ml :: [arB ba wv A0, arW wv c A0, .blk b1 (.cells #[.int .i64 a, .int .i64 b, .int .i64 (c : Int), .int .i64 d] 23)]) ([]) (G 4 (mF 17 [7, 14, 15, 16])) := fun bm ml hml => by
  refine hnode _ _ _ _ [(7, [], 3, (mF 17 [14, 15, 16])), (14, [], 3, (mF 17 [7, 15, 16]))] (by kernel_rfl) kz ?_
  refine ⟨?_, ?_⟩
  ·
   refine At.mapIns (kf := kfZ) (vf := vfZ) (ml := ml) (k := ((7 + a + 0, (-1 : Int))).1) (v := ((7 + a + 0, (-1 : Int))).2) rfl rfl Tryz.underlying107 (keyOk_int Tryz.underlying3) (.t rfl) (.t rfl) .c (.n U0) ⟨kz, ?_⟩
   refine W ?_
   exact wk (g2 bm (aput ml ((7 + a + 0, (-1 : Int))).1 ((7 + a + 0, (-1 : Int))).2) ((perm_put hml (by intro e he; (simp at he; subst he; simp; omega))).trans (.refl _)))
  ·
   refine At.mapIns (kf := kfZ) (vf := vfZ) (ml := ml) (k := ((7 + a + 2, 2 * (14 + a))).1) (v := ((7 + a + 2, 2 * (14 + a))).2) rfl rfl Tryz.underlying107 (keyOk_int Tryz.underlying3) (.t rfl) (.t rfl) (.t rfl) (.n U0) ⟨kz, ?_⟩
   refine W ?_
   exact wk (g3 bm (aput ml ((7 + a + 2, 2 * (14 + a))).1 ((7 + a + 2, 2 * (14 + a))).2) ((perm_put hml (by intro e he; (simp at he; subst he; simp; omega))).trans (.refl _)))
 have g6 : ∀ (bm : Nat) (ml : List (Int × Int)) (hml : ml.Perm [(7 + a + 0, (-1 : Int))]), At w 40 [] (fs (F13 bm 0) 53247) (mapE kfZ vfZ bm ml :: [arB ba wv A0, arW wv c A0, .blk b1 (.cells #[.int .i64 a, .int .i64 b, .int .i64 (c : Int), .int .i64 d] 23)]) ([]) (G 4 (mF 17 [3, 14, 15, 16])) := fun bm ml hml => by
  refine hnode _ _ _ _ [(3, [], 3, (mF 17 [14, 15, 16])), (14, [], 3, (mF 17 [3, 15, 16]))] (by kernel_rfl) kz ?_
  refine ⟨?_, ?_⟩
  ·
   refine At.mapIns (kf := kfZ) (vf := vfZ) (ml := ml) (k := (((2 : Int), 21 + a + 3 * b)).1) (v := (((2 : Int), 21 + a + 3 * b)).2) rfl rfl Tryz.underlying107 (keyOk_int Tryz.underlying3) (.t rfl) .c (.t rfl) (.n U0) ⟨kz, ?_⟩
   refine W ?_
   exact wk (g2 bm (aput ml (((2 : Int), 21 + a + 3 * b)).1 (((2 : Int), 21 + a + 3 * b)).2) ((perm_put hml (by intro e he; (simp at he; subst he; simp; omega))).trans (perm_xy)))
  ·
   refine At.mapIns (kf := kfZ) (vf := vfZ) (ml := ml) (k := ((7 + a + 2, 2 * (14 + a))).1) (v := ((7 + a + 2, 2 * (14 + a))).2) rfl rfl Tryz.underlying107 (keyOk_int Tryz.underlying3) (.t rfl) (.t rfl) (.t rfl) (.n U0) ⟨kz, ?_⟩
   refine W ?_
   exact wk (g4 bm (aput ml ((7 + a + 2, 2 * (14 + a))).1 ((7 + a + 2, 2 * (14 + a))).2) ((perm_put hml (by intro e he; (simp at he; subst he; simp; omega))).trans (.refl _)))
 have g7 : ∀ (bm : Nat) (ml : List (Int × Int)) (hml : ml.Perm [(7 + a + 2, 2 * (14 + a))]), At w 40 [] (fs (F13 bm 0) 53247) (mapE kfZ vfZ bm ml :: [arB ba wv A0, arW wv c A0, .blk b1 (.cells #[.int .i64 a, .int .i64 b, .int .i64 (c : Int), .int .i64 d] 23)]) ([]) (G 4 (mF 17 [3, 7, 15, 16])) := fun bm ml hml => by
  refine hnode _ _ _ _ [(3, [], 3, (mF 17 [7, 15, 16])), (7, [], 3, (mF 17 [3, 15, 16]))] (by kernel_rfl) kz ?_
  refine ⟨?_, ?_⟩
  ·
   refine At.mapIns (kf := kfZ) (vf := vfZ) (ml := ml) (k := (((2 : Int), 21 + a + 3 * b)).1) (v := (((2 : Int), 21 + a + 3 * b)).2) rfl rfl Tryz.underlying107 (keyOk_int Tryz.underlying3) (.t rfl) .c (.t rfl) (.n U0) ⟨kz, ?_⟩
   refine W ?_
   exact wk (g3 bm (aput ml (((2 : Int), 21 + a + 3 * b)).1 (((2 : Int), 21 + a + 3 * b)).2) ((perm_put hml (by intro e he; (simp at he; subst he; simp; omega))).trans (perm_xy)))
  ·
   refine At.mapIns (kf := kfZ) (vf := vfZ) (ml := ml) (k := ((7 + a + 0, (-1 : Int))).1) (v := ((7 + a + 0, (-1 : Int))).2) rfl rfl Tryz.underlying107 (keyOk_int Tryz.underlying3) (.t rfl) (.t rfl) .c (.n U0) ⟨kz, ?_⟩
   refine W ?_
   exact wk (g4 bm (aput ml ((7 + a + 0, (-1 : Int))).1 ((7 + a + 0, (-1 : Int))).2) ((perm_put hml (by intro e he; (simp at he; subst he; simp; omega))).trans (perm_xy)))
 have g8 : ∀ (bm : Nat) (ml : List (Int × Int)) (hml : ml.Perm [((2 : Int), 21 + a + 3 * b), (7 + a + 0, (-1 : Int))]), At w 40 [] (fs (F13 bm 0) 50175) (mapE kfZ vfZ bm ml :: [arB ba wv A0, arW wv c A0, .blk b1 (.cells #[.int .i64 a, .int .i64 b, .int .i64 (c : Int), .int .i64 d] 23)]) ([]) (G 5 (mF 17 [12, 13, 14, 15, 16])) := fun bm ml hml => by
  refine hnode _ _ _ _ [(12, [tt 13], 3, (mF 17 [14, 15, 16]))] (by kernel_rfl) kz ?_
  ·
   refine At.callVR rfl rfl rfl (.k rfl .nil) (.nil) (fun hg => p_First (by omega) (by omega)) kz ?_
   refine W ?_
   exact wk (g2 bm ml hml)
 have g9 : ∀ (bm : Nat) (ml : List (Int × Int)) (hml : ml.Perm []), At w 40 [] (fs (F13 bm 0) 53247) (mapE kfZ vfZ bm ml :: [arB ba wv A0, arW wv c A0, .blk b1 (.cells #[.int .i64 a, .int .i64 b, .int .i64 (c : Int), .int .i64 d] 23)]) ([]) (G 5 (mF 17 [3, 7, 14, 15, 16])) := fun bm ml hml => by
  refine hnode _ _ _ _ [(3, [], 4, (mF 17 [7, 14, 15, 16])), (7, [], 4, (mF 17 [3, 14, 15, 16])), (14, [], 4, (mF 17 [3, 7, 15, 16]))] (by kernel_rfl) kz ?_
  refine ⟨?_, ?_, ?_⟩
  ·
   refine At.mapIns (kf := kfZ) (vf := vfZ) (ml := ml) (k := (((2 : Int), 21 + a + 3 * b)).1) (v := (((2 : Int), 21 + a + 3 * b)).2) rfl rfl Tryz.underlying107 (keyOk_int Tryz.underlying3) (.t rfl) .c (.t rfl) (.n U0) ⟨kz, ?_⟩
   refine W ?_
   exact wk (g5 bm (aput ml (((2 : Int), 21 + a + 3 * b)).1 (((2 : Int), 21 + a + 3 * b)).2) ((perm_put hml (by intro e he; (simp at he; done))).trans (.refl _)))
  ·
   refine At.mapIns (kf := kfZ) (vf := vfZ) (ml := ml) (k := ((7 + a + 0, (-1 : Int))).1) (v := ((7 + a + 0, (-1 : Int))).2) rfl rfl Tryz.underlying107 (keyOk_int Tryz.underlying3) (.t rfl) (.t rfl) .c (.n U0) ⟨kz, ?_⟩
   refine W ?_
   exact wk (g6 bm (aput ml ((7 + a + 0, (-1 : Int))).1 ((7 + a + 0, (-1 : Int))).2) ((perm_put hml (by intro e he; (simp at he; done))).trans (.refl _)))
  ·
   refine At.mapIns (kf := kfZ) (vf := vfZ) (ml := ml) (k := ((7 + a + 2, 2 * (14 + a))).1) (v := ((7 + a + 2, 2 * (14 + a))).2) rfl rfl Tryz.underlying107 (keyOk_int Tryz.underlying3) (.t rfl) (.t rfl) (.t rfl) (.n U0) ⟨kz, ?_⟩
   refine W ?_
   exact wk (g7 bm (aput ml ((7 + a + 2, 2 * (14 + a))).1 ((7 + a + 2, 2 * (14 + a))).2) ((perm_put hml (by intro e he; (simp at he; done))).trans (.refl _)))
 have g10 : ∀ (bm : Nat) (ml : List (Int × Int)) (hml : ml.Perm [((2 : Int), 21 + a + 3 * b)]), At w 40 [] (fs (F13 bm 0) 50175) (mapE kfZ vfZ bm ml :: [arB ba wv A0, arW wv c A0, .blk b1 (.cells #[.int .i64 a, .int .i64 b, .int .i64 (c : Int), .int .i64 d] 23)]) ([]) (G 6 (mF 17 [7, 12, 13, 14, 15, 16])) := fun bm ml hml => by
  refine hnode _ _ _ _ [(7, [], 5, (mF 17 [12, 13, 14, 15, 16])), (12, [tt 13], 4, (mF 17 [7, 14, 15, 16]))] (by kernel_rfl) kz ?_
  refine ⟨?_, ?_⟩
  ·
   refine At.mapIns (kf := kfZ) (vf := vfZ) (ml := ml) (k := ((7 + a + 0, (-1 : Int))).1) (v := ((7 + a + 0, (-1 : Int))).2) rfl rfl Tryz.underlying107 (keyOk_int Tryz.underlying3) (.t rfl) (.t rfl) .c (.n U0) ⟨kz, ?_⟩
   refine W ?_
   exact wk (g8 bm (aput ml ((7 + a + 0, (-1 : Int))).1 ((7 + a + 0, (-1 : Int))).2) ((perm_put hml (by intro e he; (simp at he; subst he; simp; omega))).trans (.refl _)))
  ·
   refine At.callVR rfl rfl rfl (.k rfl .nil) (.nil) (fun hg => p_First (by omega) (by omega)) kz ?_
   refine W ?_
   exact wk (g5 bm ml hml)
 have g11 : ∀ (bm : Nat) (ml : List (Int × Int)) (hml : ml.Perm [(7 + a + 0, (-1 : Int))]), At w 40 [] (fs (F13 bm 0) 50175) (mapE kfZ vfZ bm ml :: [arB ba wv A0, arW wv c A0, .blk b1 (.cells #[.int .i64 a, .int .i64 b, .int .i64 (c : Int), .int .i64 d] 23)]) ([]) (G 6 (mF 17 [3, 12, 13, 14, 15, 16])) := fun bm ml hml => by
  refine hnode _ _ _ _ [(3, [], 5, (mF 17 [12, 13, 14, 15, 16])), (12, [tt 13], 4, (mF 17 [3, 14, 15, 16]))] (by kernel_rfl) kz ?_
  refine ⟨?_, ?_⟩
  ·
   refine At.mapIns (kf := kfZ) (vf := vfZ) (ml := ml) (k := (((2 : Int), 21 + a + 3 * b)).1) (v := (((2 : Int), 21 + a + 3 * b)).2) rfl rfl Tryz.underlying107 (keyOk_int Tryz.underlying3) (.t rfl) .c (.t rfl) (.n U0) ⟨kz, ?_⟩
   refine W ?_
   exact wk (g8 bm (aput ml (((2 : Int), 21 + a + 3 * b)).1 (((2 : Int), 21 + a + 3 * b)).2) ((perm_put hml (by intro e he; (simp at he; subst he; simp; omega))).trans (perm_xy)))
  ·
   refine At.callVR rfl rfl rfl (.k rfl .nil) (.nil) (fun hg => p_First (by omega) (by omega)) kz ?_
   refine W ?_
   exact wk (g6 bm ml hml)
 have g12 : ∀ (_ : True), At w 40 [] (fs (F13 0 0) 53246) ([arB ba wv A0, arW wv c A0, .blk b1 (.cells #[.int .i64 a, .int .i64 b, .int .i64 (c : Int), .int .i64 d] 23)]) ([]) (G 6 (mF 17 [0, 3, 7, 14, 15, 16])) := fun _ => by
  refine hnode _ _ _ _ [(0, [], 5, (mF 17 [3, 7, 14, 15, 16]))] (by kernel_rfl) kz ?_
  ·
   refine At.makeMap kfZ vfZ rfl rfl rfl (fun b2 hb2 => ⟨kz, ?_⟩)
   refine W ?_
   exact wk (g9 b2 [] (.refl _))
 have g13 : ∀ (bm : Nat) (ml : List (Int × Int)) (hml : ml.Perm [((2 : Int), 21 + a + 3 * b), (7 + a + 0, (-1 : Int))]), At w 40 [] (fs (F13 bm 0) 49791) (mapE kfZ vfZ bm ml :: [arB ba wv A0, arW wv c A0, .blk b1 (.cells #[.int .i64 a, .int .i64 b, .int .i64 (c : Int), .int .i64 d] 23)]) ([]) (G 7 (mF 17 [9, 10, 12, 13, 14, 15, 16])) := fun bm ml hml => by
  refine hnode _ _ _ _ [(9, [tt 10], 5, (mF 17 [12, 13, 14, 15, 16]))] (by kernel_rfl) kz ?_
  ·
   refine At.callVR rfl rfl rfl (.k rfl .nil) (.nil) (fun hg => p_Head (by omega) (by omega)) kz ?_
   refine W ?_
   exact wk (g8 bm ml hml)
 have g14 : ∀ (bm : Nat) (ml : List (Int × Int)) (hml : ml.Perm []), At w 40 [] (fs (F13 bm 0) 50175) (mapE kfZ vfZ bm ml :: [arB ba wv A0, arW wv c A0, .blk b1 (.cells #[.int .i64 a, .int .i64 b, .int .i64 (c : Int), .int .i64 d] 23)]) ([]) (G 7 (mF 17 [3, 7, 12, 13, 14, 15, 16])) := fun bm ml hml => by
  refine hnode _ _ _ _ [(3, [], 6, (mF 17 [7, 12, 13, 14, 15, 16])), (7, [], 6, (mF 17 [3, 12, 13, 14, 15, 16])), (12, [tt 13], 5, (mF 17 [3, 7, 14, 15, 16]))] (by kernel_rfl) kz ?_
  refine ⟨?_, ?_, ?_⟩
  ·
   refine At.mapIns (kf := kfZ) (vf := vfZ) (ml := ml) (k := (((2 : Int), 21 + a + 3 * b)).1) (v := (((2 : Int), 21 + a + 3 * b)).2) rfl rfl Tryz.underlying107 (keyOk_int Tryz.underlying3) (.t rfl) .c (.t rfl) (.n U0) ⟨kz, ?_⟩
   refine W ?_
   exact wk (g10 bm (aput ml (((2 : Int), 21 + a + 3 * b)).1 (((2 : Int), 21 + a + 3 * b)).2) ((perm_put hml (by intro e he; (simp at he; done))).trans (.refl _)))
  ·
   refine At.mapIns (kf := kfZ) (vf := vfZ) (ml := ml) (k := ((7 + a + 0, (-1 : Int))).1) (v := ((7 + a + 0, (-1 : Int))).2) rfl rfl Tryz.underlying107 (keyOk_int Tryz.underlying3) (.t rfl) (.t rfl) .c (.n U0) ⟨kz, ?_⟩
   refine W ?_
   exact wk (g11 bm (aput ml ((7 + a + 0, (-1 : Int))).1 ((7 + a + 0, (-1 : Int))).2) ((perm_put hml (by intro e he; (simp at he; done))).trans (.refl _)))
  ·
   refine At.callVR rfl rfl rfl (.k rfl .nil) (.nil) (fun hg => p_First (by omega) (by omega)) kz ?_
   refine W ?_
   exact wk (g9 bm ml hml)
 have g15 : ∀ (bm : Nat) (ml : List (Int × Int)) (hml : ml.Perm [((2 : Int), 21 + a + 3 * b)]), At w 40 [] (fs (F13 bm 0) 49791) (mapE kfZ vfZ bm ml :: [arB ba wv A0, arW wv c A0, .blk b1 (.cells #[.int .i64 a, .int .i64 b, .int .i64 (c : Int), .int .i64 d] 23)]) ([]) (G 8 (mF 17 [7, 9, 10, 12, 13, 14, 15, 16])) := fun bm ml hml => by
  refine hnode _ _ _ _ [(7, [], 7, (mF 17 [9, 10, 12, 13, 14, 15, 16])), (9, [tt 10], 6, (mF 17 [7, 12, 13, 14, 15, 16]))] (by kernel_rfl) kz ?_
  refine ⟨?_, ?_⟩
  ·
   refine At.mapIns (kf := kfZ) (vf := vfZ) (ml := ml) (k := ((7 + a + 0, (-1 : Int))).1) (v := ((7 + a + 0, (-1 : Int))).2) rfl rfl Tryz.underlying107 (keyOk_int Tryz.underlying3) (.t rfl) (.t rfl) .c (.n U0) ⟨kz, ?_⟩
   refine W ?_
   exact wk (g13 bm (aput ml ((7 + a + 0, (-1 : Int))).1 ((7 + a + 0, (-1 : Int))).2) ((perm_put hml (by intro e he; (simp at he; subst he; simp; omega))).trans (.refl _)))
  ·
   refine At.callVR rfl rfl rfl (.k rfl .nil) (.nil) (fun hg => p_Head (by omega) (by omega)) kz ?_
   refine W ?_
   exact wk (g10 bm ml hml)
 have g16 : ∀ (bm : Nat) (ml : List (Int × Int)) (hml : ml.Perm [(7 + a + 0, (-1 : Int))]), At w 40 [] (fs (F13 bm 0) 49791) (mapE kfZ vfZ bm ml :: [arB ba wv A0, arW wv c A0, .blk b1 (.cells #[.int .i64 a, .int .i64 b, .int .i64 (c : Int), .int .i64 d] 23)]) ([]) (G 8 (mF 17 [3, 9, 10, 12, 13, 14, 15, 16])) := fun bm ml hml => by
  refine hnode _ _ _ _ [(3, [], 7, (mF 17 [9, 10, 12, 13, 14, 15, 16])), (9, [tt 10], 6, (mF 17 [3, 12, 13, 14, 15, 16]))] (by kernel_rfl) kz ?_
  refine ⟨?_, ?_⟩
  ·
   refine At.mapIns (kf := kfZ) (vf := vfZ) (ml := ml) (k := (((2 : Int), 21 + a + 3 * b)).1) (v := (((2 : Int), 21 + a + 3 * b)).2) rfl rfl Tryz.underlying107 (keyOk_int Tryz.underlying3) (.t rfl) .c (.t rfl) (.n U0) ⟨kz, ?_⟩
   refine W ?_
   exact wk (g13 bm (aput ml (((2 : Int), 21 + a + 3 * b)).1 (((2 : Int), 21 + a + 3 * b)).2) ((perm_put hml (by intro e he; (simp at he; subst he; simp; omega))).trans (perm_xy)))
  ·
   refine At.callVR rfl rfl rfl (.k rfl .nil) (.nil) (fun hg => p_Head (by omega) (by omega)) kz ?_
   refine W ?_
   exact wk (g11 bm ml hml)
 have g17 : ∀ (_ : True), At w 40 [] (fs (F13 0 0) 50174) ([arB ba wv A0, arW wv c A0, .blk b1 (.cells #[.int .i64 a, .int .i64 b, .int .i64 (c : Int), .int .i64 d] 23)]) ([]) (G 8 (mF 17 [0, 3, 7, 12, 13, 14, 15, 16])) := fun _ => by
  refine hnode _ _ _ _ [(0, [], 7, (mF 17 [3, 7, 12, 13, 14, 15, 16])), (12, [tt 13], 6, (mF 17 [0, 3, 7, 14, 15, 16]))] (by kernel_rfl) kz ?_
  refine ⟨?_, ?_⟩
  ·
   refine At.makeMap kfZ vfZ rfl rfl rfl (fun b2 hb2 => ⟨kz, ?_⟩)
   refine W ?_
   exact wk (g14 b2 [] (.refl _))
  ·
   refine At.callVR rfl rfl rfl (.k rfl .nil) (.nil) (fun hg => p_First (by omega) (by omega)) kz ?_
   refine W ?_
   exact wk (g12 trivial)
 have g18 : ∀ (bm : Nat) (ml : List (Int × Int)) (hml : ml.Perm []), At w 40 [] (fs (F13 bm 0) 49791) (mapE kfZ vfZ bm ml :: [arB ba wv A0, arW wv c A0, .blk b1 (.cells #[.int .i64 a, .int .i64 b, .int .i64 (c : Int), .int .i64 d] 23)]) ([]) (G 9 (mT 17 [0, 1, 2, 4, 5, 6, 8, 11])) := fun bm ml hml => by
  refine hnode _ _ _ _ [(3, [], 8, (mF 17 [7, 9, 10, 12, 13, 14, 15, 16])), (7, [], 8, (mF 17 [3, 9, 10, 12, 13, 14, 15, 16])), (9, [tt 10], 7, (mF 17 [3, 7, 12, 13, 14, 15, 16]))] (by kernel_rfl) kz ?_
  refine ⟨?_, ?_, ?_⟩
  ·
   refine At.mapIns (kf := kfZ) (vf := vfZ) (ml := ml) (k := (((2 : Int), 21 + a + 3 * b)).1) (v := (((2 : Int), 21 + a + 3 * b)).2) rfl rfl Tryz.underlying107 (keyOk_int Tryz.underlying3) (.t rfl) .c (.t rfl) (.n U0) ⟨kz, ?_⟩
   refine W ?_
   exact wk (g15 bm (aput ml (((2 : Int), 21 + a + 3 * b)).1 (((2 : Int), 21 + a + 3 * b)).2) ((perm_put hml (by intro e he; (simp at he; done))).trans (.refl _)))
  ·
   refine At.mapIns (kf := kfZ) (vf := vfZ) (ml := ml) (k := ((7 + a + 0, (-1 : Int))).1) (v := ((7 + a + 0, (-1 : Int))).2) rfl rfl Tryz.underlying107 (keyOk_int Tryz.underlying3) (.t rfl) (.t rfl) .c (.n U0) ⟨kz, ?_⟩
   refine W ?_
   exact wk (g16 bm (aput ml ((7 + a + 0, (-1 : Int))).1 ((7 + a + 0, (-1 : Int))).2) ((perm_put hml (by intro e he; (simp at he; done))).trans (.refl _)))
  ·
   refine At.callVR rfl rfl rfl (.k rfl .nil) (.nil) (fun hg => p_Head (by omega) (by omega)) kz ?_
   refine W ?_
   exact wk (g14 bm ml hml)
 have g19 : ∀ (bm : Nat) (ml : List (Int × Int)) (hml : ml.Perm [((2 : Int), 21 + a + 3 * b)]), At w 40 [] (fs (F13 bm 0) 49743) (mapE kfZ vfZ bm ml :: [arB ba wv A0, arW wv c A0, .blk b1 (.cells #[.int .i64 a, .int .i64 b, .int .i64 (c : Int), .int .i64 d] 23)]) ([]) (G 10 (mT 17 [0, 1, 2, 3, 4, 8, 11])) := fun bm ml hml => by
  refine hnode _ _ _ _ [(5, [tt 6], 8, (mF 17 [7, 9, 10, 12, 13, 14, 15, 16]))] (by kernel_rfl) kz ?_
  ·
   refine At.callVR rfl rfl rfl (.k rfl .nil) (.nil) (fun hg => p_Head (by omega) (by omega)) kz ?_
   refine W ?_
   exact wk (g15 bm ml hml)
 have g20 : ∀ (_ : True), At w 40 [] (fs (F13 0 0) 49790) ([arB ba wv A0, arW wv c A0, .blk b1 (.cells #[.int .i64 a, .int .i64 b, .int .i64 (c : Int), .int .i64 d] 23)]) ([]) (G 10 (mT 17 [1, 2, 4, 5, 6, 8, 11])) := fun _ => by
  refine hnode _ _ _ _ [(0, [], 9, (mT 17 [0, 1, 2, 4, 5, 6, 8, 11])), (9, [tt 10], 8, (mF 17 [0, 3, 7, 12, 13, 14, 15, 16]))] (by kernel_rfl) kz ?_
  refine ⟨?_, ?_⟩
  ·
   refine At.makeMap kfZ vfZ rfl rfl rfl (fun b2 hb2 => ⟨kz, ?_⟩)
   refine W ?_
   exact wk (g18 b2 [] (.refl _))
  ·
   refine At.callVR rfl rfl rfl (.k rfl .nil) (.nil) (fun hg => p_Head (by omega) (by omega)) kz ?_
   refine W ?_
   exact wk (g17 trivial)
 have g21 : ∀ (bm : Nat) (ml : List (Int × Int)) (hml : ml.Perm []), At w 40 [] (fs (F13 bm 0) 49743) (mapE kfZ vfZ bm ml :: [arB ba wv A0, arW wv c A0, .blk b1 (.cells #[.int .i64 a, .int .i64 b, .int .i64 (c : Int), .int .i64 d] 23)]) ([]) (G 11 (mT 17 [0, 1, 2, 4, 8, 11])) := fun bm ml hml => by
  refine hnode _ _ _ _ [(3, [], 10, (mT 17 [0, 1, 2, 3, 4, 8, 11])), (5, [tt 6], 9, (mT 17 [0, 1, 2, 4, 5, 6, 8, 11]))] (by kernel_rfl) kz ?_
  refine ⟨?_, ?_⟩
  ·
   refine At.mapIns (kf := kfZ) (vf := vfZ) (ml := ml) (k := (((2 : Int), 21 + a + 3 * b)).1) (v := (((2 : Int), 21 + a + 3 * b)).2) rfl rfl Tryz.underlying107 (keyOk_int Tryz.underlying3) (.t rfl) .c (.t rfl) (.n U0) ⟨kz, ?_⟩
   refine W ?_
   exact wk (g19 bm (aput ml (((2 : Int), 21 + a + 3 * b)).1 (((2 : Int), 21 + a + 3 * b)).2) ((perm_put hml (by intro e he; (simp at he; done))).trans (.refl _)))
  ·
   refine At.callVR rfl rfl rfl (.k rfl .nil) (.nil) (fun hg => p_Head (by omega) (by omega)) kz ?_
   refine W ?_
   exact wk (g18 bm ml hml)
 have g22 : ∀ (bm : Nat) (ml : List (Int × Int)) (hml : ml.Perm []), At w 40 [] (fs (F13 bm 0) 49739) (mapE kfZ vfZ bm ml :: [arB ba wv A0, arW wv c A0, .blk b1 (.cells #[.int .i64 a, .int .i64 b, .int .i64 (c : Int), .int .i64 d] 23)]) ([]) (G 12 (mT 17 [0, 1, 4, 8, 11])) := fun bm ml hml => by
  refine hnode _ _ _ _ [(2, [], 11, (mT 17 [0, 1, 2, 4, 8, 11]))] (by kernel_rfl) kz ?_
  ·
   refine At.callVR rfl rfl rfl (.k rfl .nil) (.nil) (fun hg => p_Top (by omega) (by omega) (by omega) (by omega)) kz ?_
   refine W ?_
   exact wk (g21 bm ml hml)
 have g23 : ∀ (_ : True), At w 40 [] (fs (F13 0 0) 49742) ([arB ba wv A0, arW wv c A0, .blk b1 (.cells #[.int .i64 a, .int .i64 b, .int .i64 (c : Int), .int .i64 d] 23)]) ([]) (G 12 (mT 17 [1, 2, 4, 8, 11])) := fun _ => by
  refine hnode _ _ _ _ [(0, [], 11, (mT 17 [0, 1, 2, 4, 8, 11])), (5, [tt 6], 10, (mT 17 [1, 2, 4, 5, 6, 8, 11]))] (by kernel_rfl) kz ?_
  refine ⟨?_, ?_⟩
  ·
   refine At.makeMap kfZ vfZ rfl rfl rfl (fun b2 hb2 => ⟨kz, ?_⟩)
   refine W ?_
   exact wk (g21 b2 [] (.refl _))
  ·
   refine At.callVR rfl rfl rfl (.k rfl .nil) (.nil) (fun hg => p_Head (by omega) (by omega)) kz ?_
   refine W ?_
   exact wk (g20 trivial)
 have g24 : ∀ (_ : True), At w 40 [] (fs (F13 0 0) 49738) ([arB ba wv A0, arW wv c A0, .blk b1 (.cells #[.int .i64 a, .int .i64 b, .int .i64 (c : Int), .int .i64 d] 23)]) ([]) (G 13 (mT 17 [1, 4, 8, 11])) := fun _ => by
  refine hnode _ _ _ _ [(0, [], 12, (mT 17 [0, 1, 4, 8, 11])), (2, [], 12, (mT 17 [1, 2, 4, 8, 11]))] (by kernel_rfl) kz ?_
  refine ⟨?_, ?_⟩
  ·
   refine At.makeMap kfZ vfZ rfl rfl rfl (fun b2 hb2 => ⟨kz, ?_⟩)
   refine W ?_
   exact wk (g22 b2 [] (.refl _))
  ·
   refine At.callVR rfl rfl rfl (.k rfl .nil) (.nil) (fun hg => p_Top (by omega) (by omega) (by omega) (by omega)) kz ?_
   refine W ?_
   exact wk (g23 trivial)
 refine W ?_
 exact wk (g24 trivial)
end Go.Proofs.YtbolanigdkgbdaaGreat
namespace Go.Proofs.YtbolanigdkgbdaaGreat
open Go Go.RowKit
set_option maxRecDepth 10000
set_option linter.unusedVariables false
def k11A : Ar := ((((mkA 1 3 100).poke 16 2).poke 25 1).poke 26 9).poke 27 5
def k11X : Lk := ⟨1, 3, 100, 1000, 15, 0, 63, 100, 1, 0, -1, 0, 0, 0, []⟩
def k11 : Nat → Lk × Ar
  | 0 => (k11X, k11A)
  | n + 1 => (k11 n).1.step (k11 n).2
theorem k11_line : ∀ n : Fin 8, ((k11 (n.1 + 1)).1.line = 0 ↔ n.1 = 7) := by decide +kernel
theorem k11_okB : ∀ n : Fin 8, (-1000000 ≤ (k11 n.1).1.chunk ∧ (k11 n.1).1.chunk ≤ 1000000) ∧ (-1 ≤ (k11 n.1).1.i ∧ (k11 n.1).1.i ≤ 100000) ∧ (-9223372036854775808 ≤ (k11 n.1).1.state ∧ (k11 n.1).1.state ≤ 9223372036854775807) := by decide +kernel
theorem k11_few : ∀ n : Fin 8, (k11 n.1).2.few := by unfold Ar.few; decide +kernel
theorem k11_word : ∀ n : Fin 8, (k11 n.1).2.word := by unfold Ar.word; decide +kernel
theorem k11_len : ∀ n : Fin 9, (k11 n.1).2.w.length = 100 := by decide +kernel
theorem k11_ml : (k11 8).1.ml.length = 1 ∧ aget (k11 8).1.ml 9 = some ⟨9, 0, 5⟩ ∧ (k11 8).1.ml.map (·.1) = [9] ∧ (k11 8).2.peek 25 = 3 := by decide +kernel
theorem st25 : Fn Tryz.prog 38 [.int .i64 15, .int .i64 1] [] [] (IsV (.int .i64 25)) := p_State (s := 15) (i := 1) (by omega) (by omega)
theorem k11_items {ml : List (Int × Itm)} {ys : List Int} {zs : List Itm} (hm : ml.length = 1 ∧ aget ml 9 = some ⟨9, 0, 5⟩ ∧ ml.map (·.1) = [9]) (h1 : ys.Perm (ml.map (·.1))) (h2 : zs = ys.map fun k => (aget ml k).getD default) : zs = [⟨9, 0, 5⟩] := by
  rw [hm.2.2] at h1
  rw [h2, List.perm_singleton.1 h1, List.map_cons, hm.2.1]; rfl
theorem k11_facts : ∃ ks : Nat → Lk × Ar, ks 0 = (k11X, k11A) ∧ (∀ n, ks (n + 1) = (ks n).1.step (ks n).2) ∧ (∀ n : Fin 8, (-1000000 ≤ (ks n.1).1.chunk ∧ (ks n.1).1.chunk ≤ 1000000) ∧ (-1 ≤ (ks n.1).1.i ∧ (ks n.1).1.i ≤ 100000) ∧ (-9223372036854775808 ≤ (ks n.1).1.state ∧ (ks n.1).1.state ≤ 9223372036854775807)) ∧
    (∀ n : Fin 8, ((ks (n.1 + 1)).1.line = 0 ↔ n.1 = 7)) ∧ (∀ n : Fin 8, (ks n.1).2.few) ∧ (∀ n : Fin 8, (ks n.1).2.word) ∧ (∀ n : Fin 9, (ks n.1).2.w.length = 100) ∧ ((ks 8).1.ml.length = 1 ∧ aget (ks 8).1.ml 9 = some ⟨9, 0, 5⟩ ∧ (ks 8).1.ml.map (·.1) = [9]) ∧ (ks 8).2.peek 25 = 3 :=
  ⟨k11, rfl, fun _ => rfl, k11_okB, k11_line, k11_few, k11_word, k11_len, ⟨k11_ml.1, k11_ml.2.1, k11_ml.2.2.1⟩, k11_ml.2.2.2⟩
theorem c_known11  : Fn Tryz.prog 7 [] ([]) ([]) (IsV (.bool true)) := by
 refine Fn.enter Tryz.func7 (by kernel_rfl) rfl (n := 78) rfl rfl (fun w => ?_)
 obtain ⟨ks, hk0, hks, hok8, hli8, hfw, hwd, hln, hml, hpk⟩ := k11_facts
 refine W ?_
 refine At.callVR rfl rfl rfl (.kc (.cons .c (.kc .nil))) (.nil) (fun hg => h_Conf) .all ?_
 refine At.alloc rfl rfl rfl ze_23 (fun b1 hb1 => ⟨.all, ?_⟩)
 refine At.stN rfl rfl sz_23 (.t rfl) (.t rfl) rfl rfl rfl (.n U0) ⟨.all, ?_⟩
 refine W ?_
 refine cP rfl rfl rfl (.k rfl .nil) rfl (p_Make (a := 1) (b := 3) (c := 100) (d := 1000) (by unfold okC; decide)) (fun _ h => nomatch h) (fun v N1 H1 hR => ?_); obtain ⟨ba, wv, xa, hxa, rfl, rfl, rfl⟩ := hR; refine ⟨rfl, .all, ?_⟩
 refine W ?_
 refine eA rfl (R.neqNilI Tryz.underlying70 (.t rfl)) ?_
 refine W ?_
 refine eA rfl (R.eqlNilP Tryz.underlying33 (.t rfl)) ?_
 refine W ?_
 refine At.callVR rfl rfl rfl (.k rfl .nil) (.nil) (fun hg => p_First (by omega) (by omega)) .all ?_
 refine eA rfl (R.as (R.assign (.t rfl)) (fun _ => (rfl : Value.int .i64 _ = .int .i64 15))) ?_
 refine At.nil ?_
 refine At.tN ?_
 refine At.seq ?_
 refine At.plain [ff 0, ff 1, ff 2, ff 3] rfl ?_
 refine eA rfl (R.move (.t rfl)) ?_
 refine eA rfl (R.move (.t rfl)) ?_
 refine eA rfl (R.as (R.addI (.t rfl) .c gO) (fun _ => (rfl : Value.int .i64 _ = .int .i64 16))) ?_
 refine cM rfl rfl rfl (.k rfl (.k rfl (.kc .nil))) rfl (.n (.take (.take .nil))) .nil (a_Poke (n := 100) (a := xa) (by (rw [hxa]; decide +kernel)) (by omega)) rfl .nil ⟨.all, ?_⟩
 refine W ?_
 refine At.callVR rfl rfl rfl (.k rfl (.kc .nil)) (.nil) (fun hg => st25) .all ?_
 refine cM rfl rfl rfl (.k rfl (.k rfl (.kc .nil))) rfl (.n (.take (.take .nil))) .nil (a_Poke (n := 100) (a := (xa.poke 16 2)) (by (simp only [Ar.poke_len]; rw [hxa]; decide +kernel)) (by omega)) rfl .nil ⟨.all, ?_⟩
 refine W ?_
 refine At.callVR rfl rfl rfl (.k rfl (.kc .nil)) (.nil) (fun hg => st25) .all ?_
 refine eA rfl (R.as (R.addI (.t rfl) .c gO) (fun _ => (rfl : Value.int .i64 _ = .int .i64 26))) ?_
 refine cM rfl rfl rfl (.k rfl (.k rfl (.kc .nil))) rfl (.n (.take (.take .nil))) .nil (a_Poke (n := 100) (a := ((xa.poke 16 2).poke 25 1)) (by (simp only [Ar.poke_len]; rw [hxa]; decide +kernel)) (by omega)) rfl .nil ⟨.all, ?_⟩
 refine W ?_
 refine At.callVR rfl rfl rfl (.k rfl (.kc .nil)) (.nil) (fun hg => st25) .all ?_
 refine eA rfl (R.as (R.addI (.t rfl) .c gO) (fun _ => (rfl : Value.int .i64 _ = .int .i64 27))) ?_
 refine cM rfl rfl rfl (.k rfl (.k rfl (.kc .nil))) rfl (.n (.take (.take .nil))) .nil (a_Poke (n := 100) (a := (((xa.poke 16 2).poke 25 1).poke 26 9)) (by (simp only [Ar.poke_len]; rw [hxa]; decide +kernel)) (by omega)) rfl .nil ⟨.all, ?_⟩
 refine W ?_
 refine cP rfl rfl rfl (.k rfl (.k rfl (.kc (.cons .c (.kc .nil))))) rfl (k_New (a := 1) (b := 3) (c := 100) (d := 1000) (chunk := 15) (lo := 0) (hi := 63) (most := 100)) (fun _ h => nomatch h) (fun v N1 H1 hR => ?_); obtain ⟨bl, bm, rfl, rfl, rfl⟩ := hR; refine ⟨rfl, .all, ?_⟩
 refine W ?_
 refine eA rfl (R.eqlNilP Tryz.underlying37 (.t rfl)) ?_
 refine W ?_
 refine At.weak (fun _ _ h => h) (N' := [lkB bl bm k11X, lkM bm k11X, arB ba wv ((((xa.poke 16 2).poke 25 1).poke 26 9).poke 27 5), arW wv 100 ((((xa.poke 16 2).poke 25 1).poke 26 9).poke 27 5)]) sl ?_
 refine At.re (N' := [lkB bl bm (ks 0).1, lkM bm (ks 0).1, arB ba wv (ks 0).2, arW wv 100 (ks 0).2]) (by rw [hk0, hxa]; rfl) ?_
 refine At.loop1 (fun (n : Nat) => n ≤ 7) (fun (n : Nat) => 7 - n) (fun (n : Nat) => [(2, true, .pointer (some ⟨ba, 0, none⟩)), (4, true, .int .i64 15), (5, true, .pointer (some ⟨bl, 0, none⟩)), (6, true, .int .i64 n)]) (fun (n : Nat) => [lkB bl bm (ks n).1, lkM bm (ks n).1, arB ba wv (ks n).2, arW wv 100 (ks n).2]) (fun (n : Nat) => []) (0) (Nat.zero_le _) (.cons rfl (.cons rfl (.cons rfl (.cons rfl .nil)))) (List.Sublist.refl _) rfl (fun n hi => ?_)
 have hok := hok8 ⟨n, by omega⟩; have hli := hli8 ⟨n, by omega⟩; dsimp only at hli; rw [hks] at hli
 refine W ?_
 refine eA rfl (R.as (R.lss (.t rfl) .c) dT) ?_
 refine W ?_
 refine cM rfl rfl rfl (.k rfl (.k rfl .nil)) rfl (.n (.take (.take (.take (.take .nil))))) .nil (k_Step (x := (ks n).1) (a := (ks n).2) (n := 100) ⟨hok.1, hok.2.1, hok.2.2⟩ (hln ⟨n, by omega⟩) (by omega) (hfw ⟨n, by omega⟩) (hwd ⟨n, by omega⟩)) rfl .nil ⟨.all, ?_⟩
 refine Z ?_
 refine At.condN (.t rfl) (fun c3 => ?_) (fun c3 => ?_)
 ·
  have hn7 : n ≠ 7 := fun e => (by have := hli.2 e; simp [this] at c3)
  refine W ?_
  refine At.re (N' := [lkB bl bm (ks (n + 1)).1, lkM bm (ks (n + 1)).1, arB ba wv (ks (n + 1)).2, arW wv 100 (ks (n + 1)).2]) (by rw [hks]) ?_
  refine W ?_
  exact At.again1 (n + 1) (by omega) (by omega) (.cons rfl (.cons rfl (.cons rfl (.cons rfl .nil)))) (List.Sublist.refl _) rfl
 ·
  have hn7 : n = 7 := hli.1 (by simpa using c3); subst hn7; refine At.weak (fun _ _ h => h) (N' := [lkB bl bm (ks 8).1, lkM bm (ks 8).1, arB ba wv (ks 8).2, arW wv 100 (ks 8).2]) (by rw [show (ks 8) = (ks 7).1.step (ks 7).2 from hks 7]; exact (List.Sublist.refl _)) ?_
  refine W ?_
  refine cP rfl rfl rfl (.k rfl .nil) rfl (k_Items (b := bl) (bm := bm) (x := (ks 8).1) (by rw [hml.1]; omega)) (Rds.blk (.st M0) (Rds.blk (.st M1) .nil)).all (fun vi N1 H1 hR => ?_); obtain ⟨zs, ⟨ys, hy1, hy2, hy3⟩, rfl, rfl⟩ := hR; have hzs : zs = [⟨9, 0, 5⟩] := k11_items hml hy1 hy3; have hzl : zs.length = 1 := (by rw [hzs]; rfl); have hz0 : gE zs 0 = ⟨9, 0, 5⟩ := (by rw [hzs]; rfl); refine ⟨rfl, .all, ?_⟩
  refine Y ?_
  refine eA rfl (R.loadRdAgg (us := iK.enc _) Tryz.underlying43 rfl sz_43 (.t rfl) (wS M0) gO (fun hg => by exact Ek.getA (by omega))) ?_
  refine eA rfl (R.as (R.build bt_43 (.kc (.cons .c (.kc .nil))) (.cons rfl (.cons rfl (.cons rfl .nil))) rfl) (fun _ => (rfl : Value.agg _ = .agg (iK.enc (⟨9, 0, 5⟩ : Itm)).toArray))) ?_
  refine eA rfl (R.as (R.as (R.eqlS fq_43 (.t rfl) (.t rfl) rfl) (fun _ => congrArg Value.bool iK_eqb)) (fun _ => congrArg Value.bool (decide_eq_true hz0))) ?_
  refine W ?_
  refine At.callVR rfl rfl rfl (.k rfl (.kc .nil)) (.nil) (fun hg => st25) .all ?_
  refine At.callVR rfl rfl rfl (.k rfl (.k rfl .nil)) (.blk (.st M3) (.cons (wS M4) .nil)) (fun hg => a_Peek (n := 100) (a := (ks 8).2) (hln ⟨8, by omega⟩) (by omega)) .all ?_
  refine Y ?_
  exact fT rfl (.t rfl) (⟨congrArg Value.bool (by rfl), rfl, rfl⟩)
end Go.Proofs.YtbolanigdkgbdaaGreat
namespace Go.Proofs.YtbolanigdkgbdaaGreat
open Go Go.RowKit
set_option maxRecDepth 10000
set_option linter.unusedVariables false
set_option linter.unnecessarySimpa false
set_option linter.unusedSectionVars false
set_option maxHeartbeats 1000000
abbrev arZ (w : List Int) : Ar := ⟨w, 0, 0, 0, 0, 0, 0, 0, 0, 0, false⟩
theorem arZ_sim (r : Rr) : Sim (arZ r.w) (rFr r) := ⟨rfl, rfl, rfl, rfl, rfl, rfl, rfl⟩
theorem arZ_poke {w : List Int} {i : Nat} {x : Int} (h : i < w.length) : (arZ w).poke (i : Int) x = arZ (w.set i x) := by
  unfold Ar.poke Ar.hit
  rw [if_pos (by simp; omega)]; rfl
theorem set_gE {w2 w : List Int} {i : Nat} (h : i < w2.length) (h2 : ∀ j : Nat, j < i → gE w2 (j : Int) = gE w (j : Int)) : ∀ j : Nat, j < i + 1 → gE (w2.set i (gE w (i : Int))) (j : Int) = gE w (j : Int) := fun j hj => by
  by_cases e : j = i
  · subst e; unfold gE; simp [List.getD_eq_getElem?_getD, List.getElem?_set_self h]
  · rw [← h2 j (by omega)]; unfold gE; simp only [List.getD_eq_getElem?_getD, Int.toNat_natCast]; rw [List.getElem?_set_ne (by omega)]
theorem ext_gE {a b : List Int} (h : a.length = b.length) (h2 : ∀ j : Nat, j < a.length → gE a (j : Int) = gE b (j : Int)) : a = b := by
  refine List.ext_getElem h fun j h3 h4 => ?_
  have := h2 j h3
  rwa [gE_get (by simpa using h3), gE_get (by simpa using h4)] at this
theorem h_Arena {ba n : Nat} {wv : Value} {r : Rr} (hn : r.w.length = n) (hN : 1 ≤ n ∧ n ≤ 20000) : Fn Tryz.prog 11 [.pointer (some ⟨ba, 0, none⟩)] ([raB ba wv r, raR wv n r]) ([]) (fun v N H => (∃ b2 wv2, v = .pointer (some ⟨b2, 0, none⟩) ∧ N = [arB b2 wv2 (arZ r.w), arW wv2 n (arZ r.w)]) ∧ H = []) := by
 refine Fn.enter Tryz.func11 (by kernel_rfl) rfl (n := 31) rfl rfl (fun w => ?_)
 refine W ?_
 refine cP rfl rfl rfl (.k rfl .nil) rfl (a_New (n := n) (by omega)) (fun _ h => nomatch h) (fun v N1 H1 hR => ?_); obtain ⟨b2, wv2, rfl, rfl, rfl⟩ := hR; refine ⟨rfl, .all, ?_⟩
 refine W ?_
 refine At.re (N' := [arB b2 wv2 (arZ (List.replicate n 0)), arW wv2 n (arZ (List.replicate n 0))]) rfl ?_
 refine At.loop2 (fun (i : Nat) (w2 : List Int) => i ≤ n ∧ w2.length = n ∧ ∀ j : Nat, j < i → gE w2 (j : Int) = gE r.w (j : Int)) (fun (i : Nat) (w2 : List Int) => n - i) (fun (i : Nat) (w2 : List Int) => [(0, true, .pointer (some ⟨ba, 0, none⟩)), (3, true, .pointer (some ⟨b2, 0, none⟩)), (4, true, .int .i64 i)]) (fun (i : Nat) (w2 : List Int) => [arB b2 wv2 (arZ w2), arW wv2 n (arZ w2)]) (fun (i : Nat) (w2 : List Int) => []) (0) (List.replicate n 0) ⟨Nat.zero_le _, List.length_replicate, fun j hj => absurd hj (Nat.not_lt_zero _)⟩ (.cons rfl (.cons rfl (.cons rfl .nil))) (List.Sublist.refl _) rfl (fun i w2 hi => ?_)
 obtain ⟨hi1, hi2, hi3⟩ := hi
 refine Z ?_
 refine At.condD (.t rfl) (fun c1 => ?_) (fun c1 => ?_)
 ·
  refine W ?_
  refine cM rfl rfl rfl (.k rfl (.k rfl (.k rfl .nil))) rfl (.n (.take (.take .nil))) .nil (a_Poke (n := n) (a := arZ w2) (i := (i : Int)) (x := gE r.w (i : Int)) hi2 (by omega)) rfl .nil ⟨.all, ?_⟩
  refine W ?_
  refine At.re (N' := [arB b2 wv2 (arZ (w2.set i (gE r.w (i : Int)))), arW wv2 n (arZ (w2.set i (gE r.w (i : Int))))]) (by rw [arZ_poke (by omega)]) ?_
  refine W ?_
  exact At.again2 (i + 1) (w2.set i (gE r.w (i : Int))) ⟨by omega, by rw [List.length_set]; exact hi2, set_gE (by omega) hi3⟩ (by omega) (.cons rfl (.cons rfl (.cons rfl .nil))) (List.Sublist.refl _) rfl
 ·
  refine W ?_
  refine At.re (N' := [arB b2 wv2 (arZ r.w), arW wv2 n (arZ r.w)]) (by rw [show w2 = r.w from ext_gE (by omega) (fun j hj => hi3 j (by omega))]) ?_
  exact At.final (N' := [arB b2 wv2 (arZ r.w), arW wv2 n (arZ r.w)]) rfl (.t rfl) (List.Sublist.refl _) (⟨⟨b2, wv2, rfl, rfl⟩, rfl⟩)
end Go.Proofs.YtbolanigdkgbdaaGreat
namespace Go.Proofs.YtbolanigdkgbdaaGreat
open Go Go.RowKit
set_option linter.unusedVariables false
theorem Cl.keptS [Df] {w0 : World} {S N N' H : Hp} (h : N.Sublist N') : Cl w0 S N' H (Kept (S ++ (N ++ H))) := Cl.kept fun e he => by
  simp only [List.mem_append] at he ⊢
  rcases he with he | he | he
  · exact .inl he
  · exact .inr (.inl (h.subset he))
  · exact .inr (.inr he)
theorem c_same {u v : Value} {a : List Itm} : Fn Tryz.prog 22 [u, v] [rdE iK u a, rdE iK v a] [] (IsV (.bool true)) := by
  have := c_SameItems (u := u) (v := v) (a := a) (b := a)
  rwa [decide_eq_true rfl] at this
end Go.Proofs.YtbolanigdkgbdaaGreat
