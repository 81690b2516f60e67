/- G1 -/
import Derived.Test.YtejpanipdjknjaaK6
import Derived.Test.YtejpanipdjknjaaEngG
namespace Go.Proofs.Ytejpanipdjknjaa
open Go Go.RowKit
set_option maxRecDepth 10000
set_option linter.unusedVariables false



/-- The items of one key. -/
def ownF (l : List Itm) (key : Int) : List Itm := l.filter (fun x => decide (x.key = key))

/-- The first item of another key. -/
def idxO (l : List Itm) (key : Int) : Int := match l.findIdx? (fun x => !decide (x.key = key)) with
  | some i => i
  | none => -1
theorem idxO_some {l : List Itm} {key : Int} (h : ¬ idxO l key = -1) : ∃ i0 : Nat, idxO l key = i0 ∧ i0 < l.length ∧ (∀ x ∈ l.take i0, x.key = key) ∧ (gE l (i0 : Int)).key ≠ key := by
  unfold idxO at *
  cases hf : l.findIdx? (fun x => !decide (x.key = key)) with
  | none => rw [hf] at h; exact absurd rfl h
  | some i =>
    rw [List.findIdx?_eq_some_iff_getElem] at hf
    obtain ⟨h1, h2, h3⟩ := hf
    refine ⟨i, rfl, h1, fun x hx => ?_, by simpa [gE, h1] using h2⟩
    obtain ⟨j, hj, rfl⟩ := List.mem_iff_getElem.1 hx
    simp only [List.length_take] at hj
    have := h3 j (by omega)
    simpa using this
theorem own_all {l : List Itm} {key : Int} (h : idxO l key = -1) : ownF l key = l := by
  unfold idxO at h
  unfold ownF
  rw [List.filter_eq_self]
  intro x hx
  cases hf : l.findIdx? (fun x => !decide (x.key = key)) with
  | none => rw [List.findIdx?_eq_none_iff] at hf; simpa using hf x hx
  | some i => rw [hf] at h; simp only at h; omega
theorem own_take {l : List Itm} {key : Int} {j : Nat} (hj : j < l.length) : ownF (l.take (j + 1)) key = ownF (l.take j) key ++ ownF [gE l (j : Int)] key := by
  rw [take_succ_gE hj]; exact List.filter_append _ _
theorem own_first {l : List Itm} {key : Int} {i : Nat} (h : ∀ x ∈ l.take i, x.key = key) (hne : (gE l (i : Int)).key ≠ key) (hi : i < l.length) : l.take i = ownF (l.take (i + 1)) key := by
  rw [own_take hi]
  have e1 : ownF (l.take i) key = l.take i := by unfold ownF; rw [List.filter_eq_self]; intro x hx; simpa using h x hx
  have e2 : ownF [gE l (i : Int)] key = [] := by simp [ownF, hne]
  rw [e1, e2, List.append_nil]
theorem drop_get {cur l : List Itm} {j : Nat} (h : cur.drop j = l.drop j) : gE cur (j : Int) = gE l (j : Int) := by
  have := congrArg (fun z => z[0]?) h
  simp only [List.getElem?_drop, Nat.add_zero] at this
  simp [gE, this]
theorem own_yes {cur l : List Itm} {key : Int} {i j : Nat} (hj : j < l.length) (hi : i < j) (hl : cur.length = l.length) (h : cur.take i = ownF (l.take j) key) (hd : cur.drop j = l.drop j) (hc : (gE cur (j : Int)).key = key) : (cur.set ((i : Int)).toNat (gE cur (j : Int))).take (i + 1) = ownF (l.take (j + 1)) key := by
  rw [own_take hj, ← h, ← drop_get hd]
  have e2 : ownF [gE cur (j : Int)] key = [gE cur (j : Int)] := by simp [ownF, hc]
  rw [e2, Int.toNat_natCast, List.take_succ_eq_append_getElem (by rw [List.length_set]; omega), List.take_set_of_le (Nat.le_refl _)]
  simp
theorem own_no {cur l : List Itm} {key : Int} {i j : Nat} (hj : j < l.length) (hl : cur.length = l.length) (h : cur.take i = ownF (l.take j) key) (hd : cur.drop j = l.drop j) (hc : ¬ (gE cur (j : Int)).key = key) : cur.take i = ownF (l.take (j + 1)) key := by
  rw [own_take hj, ← h, ← drop_get hd]
  have e2 : ownF [gE cur (j : Int)] key = [] := by simp [ownF, hc]
  rw [e2, List.append_nil]
theorem own_next {cur l : List Itm} {j : Nat} (hd : cur.drop j = l.drop j) : cur.drop (j + 1) = l.drop (j + 1) := by
  rw [← List.drop_drop, hd, List.drop_drop]
theorem own_drop {cur l : List Itm} {i j : Nat} {x : Itm} (hj : j < l.length) (hi : i < j) (hd : cur.drop j = l.drop j) : (cur.set ((i : Int)).toNat x).drop (j + 1) = l.drop (j + 1) := by
  rw [Int.toNat_natCast, List.drop_set_of_lt (by omega)]; exact own_next hd
theorem own_cut {cur l : List Itm} {key : Int} {i j : Nat} {v : Value} {E : TypeId} (hj : l.length ≤ j) (h : cur.take i = ownF (l.take j) key) (hi : i ≤ cur.length) : [Ent.row v E 3 i (iK.all (cur.take i))] = [rowE iK E v (ownF l key)] := by
  rw [List.take_of_length_le hj] at h
  have e : (ownF l key).length = i := by rw [← h, List.length_take, Nat.min_eq_left hi]
  rw [rowE, ← h, h, e]
theorem idx_step {l : List Itm} {key : Int} {i : Nat} (hi : i < l.length) (h : ∀ x ∈ l.take i, x.key = key) (hc : (gE l (i : Int)).key = key) : ∀ x ∈ l.take (i + 1), x.key = key := fun x hx => by
  rw [take_succ_gE hi] at hx
  rcases List.mem_append.1 hx with hx | hx
  · exact h x hx
  · simp only [List.mem_singleton] at hx; subst hx; exact hc
theorem idx_yes {l : List Itm} {key : Int} {i : Nat} (hi : i < l.length) (h : ∀ x ∈ l.take i, x.key = key) (hc : ¬ (gE l (i : Int)).key = key) : (i : Int) = idxO l key := by
  have : l.findIdx? (fun x => !decide (x.key = key)) = some i := by
    rw [List.findIdx?_eq_some_iff_getElem]
    refine ⟨hi, ?_, fun j hj => ?_⟩
    · simpa [gE, hi] using hc
    · have := h l[j] (List.mem_iff_getElem.2 ⟨j, by simp; omega, by simp⟩)
      simpa using this
  unfold idxO; rw [this]
theorem idx_none {l : List Itm} {key : Int} {i : Nat} (hi : l.length ≤ i) (h : ∀ x ∈ l.take i, x.key = key) : (-1 : Int) = idxO l key := by
  have : l.findIdx? (fun x => !decide (x.key = key)) = none := by
    rw [List.findIdx?_eq_none_iff]
    intro x hx
    rw [List.take_of_length_le hi] at h
    simpa using h x hx
  unfold idxO; rw [this]
theorem c_other {x : Itm} {key : Int} {bk : Nat} : Fn Try.prog 42 [.agg (iK.enc x).toArray, .pointer (some ⟨bk, 0, none⟩)] [.blk bk (.cells #[.int .i64 key] 3)] [] (IsV (.bool (!decide (x.key = key)))) := by
  refine Fn.enter Try.func42 (by kernel_rfl) rfl (n := 8) rfl rfl (fun w => ?_)
  refine At.seq ?_
  refine At.plain [(false, 0), (false, 1)] rfl ?_
  refine At.box rfl rfl rfl (.t rfl) (fun b1 hb1 => ⟨.all, ?_⟩)
  refine At.e rfl rfl rfl rfl .all (R.assign .c) ?_
  refine At.nil ?_
  refine At.tN ?_
  refine At.seq ?_
  refine At.plain [(false, 0), (false, 1), (false, 2), (false, 3), (false, 4)] rfl ?_
  refine At.e rfl rfl rfl rfl .all (R.fieldAddr fo_43_0 (.t rfl)) ?_
  refine At.e rfl rfl rfl rfl .all (R.load Try.underlying3 rfl (.t rfl) (by exact cS M1 rfl)) ?_
  refine At.e rfl rfl rfl rfl .all (R.load Try.underlying3 rfl (.t rfl) (by exact cS M0 rfl)) ?_
  refine At.e rfl rfl rfl rfl .all (R.neq (.t rfl) (.t rfl)) ?_
  refine At.e rfl rfl rfl rfl .all (R.assign (.t rfl)) ?_
  refine At.nil ?_
  refine At.tN ?_
  refine At.ret ?_
  exact At.final rfl (.t rfl) (List.nil_sublist _) (⟨rfl, rfl, rfl⟩)

theorem c_idx {v : Value} {l : List Itm} {key : Int} {bk : Nat} : Fn Try.prog 55 [v, .func (.func 42) #[] #[.pointer (some ⟨bk, 0, none⟩)]] [rdE iK v l, .blk bk (.cells #[.int .i64 key] 3)] [] (IsV (.int .i64 (idxO l key))) := by
  refine Fn.enter Try.func55 (by kernel_rfl) rfl (n := 19) rfl rfl (fun w => ?_)
  refine At.len (v := v) (by (exact rS M0)) (fun hl1 => ?_)
  refine At.seq ?_
  refine At.plain [(false, 0)] rfl ?_
  refine At.e rfl rfl rfl rfl .all (R.assign .c) ?_
  refine At.nil ?_
  refine At.tN ?_
  refine At.seq ?_
  refine At.seq ?_
  refine At.plain [(false, 0), (false, 1), (false, 2)] rfl ?_
  refine At.e rfl rfl rfl rfl .all (R.move (.t rfl)) ?_
  refine At.e rfl rfl rfl rfl .all (R.lenRd Try.underlying22 (.t rfl) (by (exact rS M0))) ?_
  refine At.e rfl rfl rfl rfl .all (R.move .c) ?_
  refine At.nil ?_
  refine At.tN ?_
  refine At.block ?_
  refine At.loop1 (fun (i : Nat) => i ≤ l.length ∧ (∀ x ∈ l.take i, x.key = key)) (fun (i : Nat) => l.length - i) (fun (i : Nat) => [(0, true, v), (1, true, .func (.func 42) #[] #[.pointer (some ⟨bk, 0, none⟩)]), (6, true, v), (7, true, .int .i64 l.length), (8, true, .int .i64 i)]) (fun (i : Nat) => []) (fun (i : Nat) => []) (0) ⟨Nat.zero_le _, by simp⟩ (.cons rfl (.cons rfl (.cons rfl (.cons rfl (.cons rfl .nil))))) (by ((repeat (first | exact List.Sublist.refl _ | exact List.nil_sublist _ | apply List.Sublist.cons_cons | apply List.Sublist.cons)))) rfl (fun i hi => ?_)
  obtain ⟨hi1, hi2⟩ := hi
  refine At.seq ?_
  refine At.plain [(false, 0)] rfl ?_
  refine At.e rfl rfl rfl rfl .all (R.lss (.t rfl) (.t rfl)) ?_
  refine At.nil ?_
  refine At.tN ?_
  refine At.seq ?_
  refine At.condD (.t rfl) (fun c1 => ?_) (fun c1 => ?_)
  · skip
    refine At.skip ?_
    refine At.tN ?_
    refine At.seq ?_
    refine At.block ?_
    refine At.seq ?_
    refine At.plain [(false, 0), (false, 1)] rfl ?_
    refine At.e rfl rfl rfl rfl .all (R.move (.t rfl)) ?_
    refine At.e rfl rfl rfl rfl .all (R.assign (.t rfl)) ?_
    refine At.nil ?_
    refine At.tN ?_
    refine At.seq ?_
    refine At.plain [(false, 0), (false, 1), (false, 2), (false, 3), (false, 4), (false, 5)] rfl ?_
    refine At.e rfl rfl rfl rfl .all (R.move (.t rfl)) ?_
    refine At.e rfl rfl rfl rfl .all (R.move (.t rfl)) ?_
    refine At.e rfl rfl rfl rfl .all (R.move (.t rfl)) ?_
    refine At.e rfl rfl rfl rfl .all (R.indexRd Try.underlying22 sz_43 (.t rfl) (by (exact rS M0)) (.t rfl) (fun hg => (by omega))) ?_
    refine At.e rfl rfl rfl rfl .all (R.loadRdAgg (us := iK.enc _) Try.underlying43 rfl sz_43 (.t rfl) (by (exact rS M0)) (fun hg => (by omega)) (fun hg => by exact Ek.getA (by omega))) ?_
    refine At.callVF (fst := []) (cap := [.pointer (some ⟨bk, 0, none⟩)]) rfl rfl rfl (.t rfl) (.cons (.t rfl) .nil) rfl (by (exact .blk (.st M1) .nil)) (fun hg => c_other) .all ?_
    refine At.nil ?_
    refine At.tN ?_
    refine At.condN (.t rfl) (fun c2 => ?_) (fun c2 => ?_)
    · skip
      refine At.seq ?_
      refine At.plain [(false, 0), (false, 1)] rfl ?_
      refine At.e rfl rfl rfl rfl .all (R.move (.t rfl)) ?_
      refine At.e rfl rfl rfl rfl .all (R.assign (.t rfl)) ?_
      refine At.nil ?_
      refine At.tN ?_
      refine At.ret ?_
      refine At.bR ?_
      refine At.tR ?_
      refine At.tR ?_
      refine At.bR ?_
      refine At.tR ?_
      exact At.final rfl (.t rfl) (List.nil_sublist _) (⟨congrArg (Value.int .i64) (by exact idx_yes (by omega) hi2 c2), rfl, rfl⟩)
    · skip
      refine At.skip ?_
      refine At.bN ?_
      refine At.tN ?_
      refine At.plain [(false, 0), (false, 1)] rfl ?_
      refine At.e rfl rfl rfl rfl .all (R.addI (.t rfl) .c (fun hg => by omega)) ?_
      refine At.e rfl rfl rfl rfl .all (R.move (.t rfl)) ?_
      refine At.nil ?_
      refine At.tN ?_
      exact At.again1 (i + 1) ⟨by omega, idx_step (by omega) hi2 c2⟩ (by omega) (.cons rfl (.cons rfl (.cons rfl (.cons rfl (.cons rfl .nil))))) (by ((repeat (first | exact List.Sublist.refl _ | exact List.nil_sublist _ | apply List.Sublist.cons_cons | apply List.Sublist.cons)))) rfl
  · skip
    refine At.exit ?_
    refine At.tE ?_
    refine At.tE ?_
    refine At.bE ?_
    refine At.tN ?_
    refine At.seq ?_
    refine At.plain [(false, 0)] rfl ?_
    refine At.e rfl rfl rfl rfl .all (R.assign .c) ?_
    refine At.nil ?_
    refine At.tN ?_
    refine At.ret ?_
    exact At.final rfl (.t rfl) (List.nil_sublist _) (⟨congrArg (Value.int .i64) (by exact idx_none (by omega) hi2), rfl, rfl⟩)

theorem c_del {v : Value} {l : List Itm} {key : Int} {bk : Nat} (hN : l.length ≤ 1000000) : Fn Try.prog 40 [v, .func (.func 42) #[] #[.pointer (some ⟨bk, 0, none⟩)]] [.blk bk (.cells #[.int .i64 key] 3)] [.row v 43 3 l.length (iK.all l)] (IsWX (fun v' : Value => v'.ownBlock = v.ownBlock) (fun v' => v') (fun v' => rowE iK 43 v' (ownF l key))) := by
  refine Fn.enter Try.func40 (by kernel_rfl) rfl (n := 42) rfl rfl (fun w => ?_)
  refine At.seq ?_
  refine At.plain [(false, 0)] rfl ?_
  refine At.e rfl rfl rfl rfl .all (R.assign .c) ?_
  refine At.nil ?_
  refine At.tN ?_
  refine At.seq ?_
  refine At.plain [(false, 0), (false, 1), (false, 2), (false, 3)] rfl ?_
  refine At.e rfl rfl rfl rfl .all (R.move (.t rfl)) ?_
  refine At.e rfl rfl rfl rfl .all (R.move (.t rfl)) ?_
  refine At.callVR rfl rfl rfl (.cons (.t rfl) (.cons (.t rfl) .nil)) (by (exact .cons (by (exact wS M1)) (.blk (.st M0) .nil))) (fun hg => c_idx (l := l) (key := key) (bk := bk)) .all ?_
  refine At.e rfl rfl rfl rfl .all (R.assign (.t rfl)) ?_
  refine At.nil ?_
  refine At.tN ?_
  refine At.seq ?_
  refine At.seq ?_
  refine At.plain [(false, 0), (false, 1)] rfl ?_
  refine At.e rfl rfl rfl rfl .all (R.move (.t rfl)) ?_
  refine At.e rfl rfl rfl rfl .all (R.eql (.t rfl) .c) ?_
  refine At.nil ?_
  refine At.tN ?_
  refine At.condD (.t rfl) (fun c1 => ?_) (fun c1 => ?_)
  · skip
    refine At.seq ?_
    refine At.plain [(false, 0), (false, 1)] rfl ?_
    refine At.e rfl rfl rfl rfl .all (R.move (.t rfl)) ?_
    refine At.e rfl rfl rfl rfl .all (R.assign (.t rfl)) ?_
    refine At.nil ?_
    refine At.tN ?_
    refine At.ret ?_
    refine At.tR ?_
    exact At.final rfl (.t rfl) (List.nil_sublist _) (⟨rfl, v, rfl, rfl, by rw [own_all (by omega)]⟩)
  · obtain ⟨i0, he, hlt, hall, hne⟩ := idxO_some c1
    refine At.skip ?_
    refine At.tN ?_
    refine At.seq ?_
    refine At.seq ?_
    refine At.plain [(false, 0), (false, 1), (false, 2)] rfl ?_
    refine At.e rfl rfl rfl rfl .all (R.move (.t rfl)) ?_
    refine At.e rfl rfl rfl rfl .all (R.addI (.t rfl) .c (fun hg => by omega)) ?_
    refine At.e rfl rfl rfl rfl .all (R.assign (.t rfl)) ?_
    refine At.nil ?_
    refine At.tN ?_
    refine At.block ?_
    refine At.loop3 (fun (i : Nat) (j : Nat) (cur : List Itm) => i < j ∧ j ≤ l.length ∧ cur.length = l.length ∧ cur.take i = ownF (l.take j) key ∧ cur.drop j = l.drop j) (fun (i : Nat) (j : Nat) (cur : List Itm) => l.length - j) (fun (i : Nat) (j : Nat) (cur : List Itm) => [(0, true, v), (1, true, .func (.func 42) #[] #[.pointer (some ⟨bk, 0, none⟩)]), (5, true, .int .i64 i), (6, true, .int .i64 j)]) (fun (i : Nat) (j : Nat) (cur : List Itm) => []) (fun (i : Nat) (j : Nat) (cur : List Itm) => [.row v 43 3 l.length (iK.all cur)]) (i0) (i0 + 1) (l) ⟨Nat.lt_succ_self _, by omega, rfl, own_first hall hne hlt, rfl⟩ (.cons rfl (.cons rfl (.cons (congrArg (fun z => some (true, Value.int .i64 z)) he) (.cons (congrArg (fun z => some (true, Value.int .i64 z)) (by omega)) .nil)))) (by ((repeat (first | exact List.Sublist.refl _ | exact List.nil_sublist _ | apply List.Sublist.cons_cons | apply List.Sublist.cons)))) rfl (fun i j cur hi => ?_)
    obtain ⟨hi1, hi2, hi3, hi4, hi5⟩ := hi
    refine At.seq ?_
    refine At.seq ?_
    refine At.plain [(false, 0), (false, 1), (false, 2), (false, 3)] rfl ?_
    refine At.e rfl rfl rfl rfl .all (R.move (.t rfl)) ?_
    refine At.e rfl rfl rfl rfl .all (R.move (.t rfl)) ?_
    refine At.e rfl rfl rfl rfl .all (R.lenRd Try.underlying22 (.t rfl) (by (exact wS M1))) ?_
    refine At.e rfl rfl rfl rfl .all (R.lss (.t rfl) (.t rfl)) ?_
    refine At.nil ?_
    refine At.tN ?_
    refine At.condD (.t rfl) (fun c2 => ?_) (fun c2 => ?_)
    · skip
      refine At.skip ?_
      refine At.tN ?_
      refine At.seq ?_
      refine At.block ?_
      refine At.seq ?_
      refine At.plain [(false, 0), (false, 1), (false, 2), (false, 3), (false, 4), (false, 5)] rfl ?_
      refine At.e rfl rfl rfl rfl .all (R.move (.t rfl)) ?_
      refine At.e rfl rfl rfl rfl .all (R.move (.t rfl)) ?_
      refine At.e rfl rfl rfl rfl .all (R.indexRd Try.underlying22 sz_43 (.t rfl) (by (exact wS M1)) (.t rfl) (fun hg => (by omega))) ?_
      refine At.e rfl rfl rfl rfl .all (R.loadRdAgg (us := iK.enc _) Try.underlying43 rfl sz_43 (.t rfl) (by (exact wS M1)) (fun hg => (by omega)) (fun hg => by exact Ek.getA (by omega))) ?_
      refine At.alloc rfl rfl rfl ze_43 (fun b1 hb1 => ⟨.all, ?_⟩)
      refine At.stN rfl rfl sz_43 (.t rfl) (.t rfl) rfl rfl rfl (.n U0) ⟨.all, ?_⟩
      refine At.nil ?_
      refine At.tN ?_
      refine At.seq ?_
      refine At.plain [(false, 0), (false, 1), (false, 2), (false, 3)] rfl ?_
      refine At.e rfl rfl rfl rfl .all (R.move (.t rfl)) ?_
      refine At.e rfl rfl rfl rfl .all (R.loadAgg (vs := iK.enc _) Try.underlying43 rfl sz_43 (.t rfl) (by exact csS M1 ⟨rfl, rfl, rfl, trivial⟩)) ?_
      refine At.callVF (fst := []) (cap := [.pointer (some ⟨bk, 0, none⟩)]) rfl rfl rfl (.t rfl) (.cons (.t rfl) .nil) rfl (by (exact .blk (.st M0) .nil)) (fun hg => c_other) .all ?_
      refine At.e rfl rfl rfl rfl .all (R.not (.t rfl)) ?_
      refine At.nil ?_
      refine At.tN ?_
      refine At.cond (.t rfl) (fun c3 => ?_) (fun c3 => ?_)
      · skip
        refine At.seq ?_
        refine At.rowForm (v := v) (by (exact M2)) (by omega) (fun g cap hv => ?_)
        subst hv
        refine At.plain [(false, 0), (false, 1), (false, 2), (false, 3), (false, 4)] rfl ?_
        refine At.e rfl rfl rfl rfl .all (R.move (.t rfl)) ?_
        refine At.e rfl rfl rfl rfl .all (R.move (.t rfl)) ?_
        refine At.e rfl rfl rfl rfl .all (R.loadAgg (vs := iK.enc _) Try.underlying43 rfl sz_43 (.t rfl) (by exact csS M1 ⟨rfl, rfl, rfl, trivial⟩)) ?_
        refine At.e rfl rfl rfl rfl .all (R.indexRd Try.underlying22 sz_43 (.t rfl) (by (exact wS M2)) (.t rfl) (fun hg => (by omega))) ?_
        refine At.stRow (k := iK) rfl rfl sz_43 (.t rfl) (.t rfl) rfl (.h U0) (by omega) (by omega) ⟨.all, ?_⟩
        refine At.nil ?_
        refine At.tN ?_
        refine At.plain [(false, 0), (false, 1), (false, 2)] rfl ?_
        refine At.e rfl rfl rfl rfl .all (R.move (.t rfl)) ?_
        refine At.e rfl rfl rfl rfl .all (R.addI (.t rfl) .c (fun hg => by omega)) ?_
        refine At.e rfl rfl rfl rfl .all (R.assign (.t rfl)) ?_
        refine At.nil ?_
        refine At.bN ?_
        refine At.tN ?_
        refine At.plain [(false, 0), (false, 1), (false, 2)] rfl ?_
        refine At.e rfl rfl rfl rfl .all (R.move (.t rfl)) ?_
        refine At.e rfl rfl rfl rfl .all (R.addI (.t rfl) .c (fun hg => by omega)) ?_
        refine At.e rfl rfl rfl rfl .all (R.assign (.t rfl)) ?_
        refine At.nil ?_
        refine At.tN ?_
        exact At.again3 (i + 1) (j + 1) (cur.set ((i : Int)).toNat (gE cur j)) ⟨by omega, by omega, by simp only [List.length_set]; exact hi3, own_yes (by omega) (by omega) hi3 hi4 hi5 (by simpa using c3), own_drop (by omega) (by omega) hi5⟩ (by show l.length - (j + 1) < l.length - j; omega) (.cons rfl (.cons rfl (.cons rfl (.cons rfl .nil)))) (by ((repeat (first | exact List.Sublist.refl _ | exact List.nil_sublist _ | apply List.Sublist.cons_cons | apply List.Sublist.cons)))) rfl
      · skip
        refine At.skip ?_
        refine At.bN ?_
        refine At.tN ?_
        refine At.plain [(false, 0), (false, 1), (false, 2)] rfl ?_
        refine At.e rfl rfl rfl rfl .all (R.move (.t rfl)) ?_
        refine At.e rfl rfl rfl rfl .all (R.addI (.t rfl) .c (fun hg => by omega)) ?_
        refine At.e rfl rfl rfl rfl .all (R.assign (.t rfl)) ?_
        refine At.nil ?_
        refine At.tN ?_
        exact At.again3 (i) (j + 1) (cur) ⟨by omega, by omega, hi3, own_no (by omega) hi3 hi4 hi5 (by simpa using c3), own_next hi5⟩ (by show l.length - (j + 1) < l.length - j; omega) (.cons rfl (.cons rfl (.cons rfl (.cons rfl .nil)))) (by ((repeat (first | exact List.Sublist.refl _ | exact List.nil_sublist _ | apply List.Sublist.cons_cons | apply List.Sublist.cons)))) rfl
    · skip
      refine At.exit ?_
      refine At.tE ?_
      refine At.tE ?_
      refine At.bE ?_
      refine At.tN ?_
      refine At.seq ?_
      refine At.rowForm2 (v := v) (by (exact M1)) (by omega) (fun g cap hv hcap => ?_)
      subst hv
      refine At.plain [(false, 0), (false, 1), (false, 2), (false, 3)] rfl ?_
      refine At.e rfl rfl rfl rfl .all (R.move (.t rfl)) ?_
      refine At.e rfl rfl rfl rfl .all (R.move (.t rfl)) ?_
      refine At.e rfl rfl rfl rfl .all (R.sliceRd Try.underlying22 sz_43 (.t rfl) (by (exact wS M1)) (.t rfl) rfl (fun hg => (by omega))) ?_
      refine At.clearCut (k := iK) (e := 43) rfl rfl Try.underlying22 ze_43 rfl rfl (by decide) (.t rfl) (by omega) (.h U0) (by omega) ⟨.all, ?_⟩
      refine At.nil ?_
      refine At.tN ?_
      refine At.seq ?_
      refine At.plain [(false, 0), (false, 1), (false, 2), (false, 3)] rfl ?_
      refine At.e rfl rfl rfl rfl .all (R.move (.t rfl)) ?_
      refine At.e rfl rfl rfl rfl .all (R.move (.t rfl)) ?_
      refine At.e rfl rfl rfl rfl .all (R.sliceHi Try.underlying22 sz_43 (.t rfl) (.t rfl) (fun hg => by omega)) ?_
      refine At.e rfl rfl rfl rfl .all (R.assign (.t rfl)) ?_
      refine At.nil ?_
      refine At.tN ?_
      refine At.ret ?_
      exact At.final rfl (.t rfl) (List.nil_sublist _) (⟨rfl, .slice (some ⟨g, 0, none⟩) i cap, rfl, rfl, own_cut (by omega) hi4 (by omega)⟩)

end Go.Proofs.Ytejpanipdjknjaa
