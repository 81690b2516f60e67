/- slices.Collect(maps.Keys(m)) at a map of items by number: its keys, in some order. -/
import Derived.Test.YtimclnhklaldfaaLkP
import Derived.Test.YtimclnhklaldfaaProg
import Derived.RangeFuncNested
import Derived.RangeFuncBox
import Derived.RangeFuncLeaves
import Derived.Shelf.Abstract
import Derived.Shelf.AbstractIn
import Derived.WalkKit
import Derived.OwnWalkIn
import Derived.TacticsInMore
import Derived.LoopNIn
import Derived.LoopIn
import Derived.Maps.AppendAt
import Derived.Sort.MapsRangeIn
namespace Go.Proofs.Ytimclnhklaldfaa
open Go Go.RowKit Go.Shelf Go.MapKept Go.ChangeMaps
set_option linter.unusedVariables false
attribute [local go_sem] Oper.semAt_some
section
variable {κ α : Type}
theorem mEs_born (kf : κ → Value) (vf : α → Value) : ∀ (l : List (κ × α)) (b : Nat), (mEs kf vf b l).map (·.born) = List.range' b l.length
  | [], _ => rfl
  | x :: r, b => by simp only [mEs, List.map_cons, List.length_cons, List.range'_succ, mEs_born kf vf r (b + 1)]
theorem mEs_lt {kf : κ → Value} {vf : α → Value} {l : List (κ × α)} : ∀ x ∈ (mEs kf vf 0 l).toArray.toList, x.born < l.length := fun x hx => by
  have : x.born ∈ (mEs kf vf 0 l).map (·.born) := List.mem_map.2 ⟨x, by simpa using hx, rfl⟩
  rw [mEs_born] at this
  have := List.mem_range'_1.1 this
  omega
/-- A range over a map is under way: these entries have come. -/
structure MIt (w : World) (kf : κ → Value) (vf : α → Value) (b r : Nat) (ml : List (κ × α)) (seen : List Nat) : Prop where
  map : w.heap[b]? = some (.map (mEs kf vf 0 ml).toArray ml.length)
  it : ∃ c0, w.heap[r]? = some (.mapIter (some b) ml.length seen.toArray c0) ∧ ml.length ≤ c0
  nodup : seen.Nodup
  lt : ∀ i ∈ seen, i < ml.length
theorem MIt.ne {w : World} {kf : κ → Value} {vf : α → Value} {b r : Nat} {ml : List (κ × α)} {seen : List Nat} (h : MIt w kf vf b r ml seen) : r ≠ b := fun e => by
  obtain ⟨c0, h1, _⟩ := h.it
  rw [e, h.map] at h1; cases h1
theorem MIt.walks {w w' : World} {kf : κ → Value} {vf : α → Value} {b r : Nat} {ml : List (κ × α)} {seen : List Nat} (h : MIt w kf vf b r ml seen) (hk : KeepsWalks w w') : MIt w' kf vf b r ml seen := by
  obtain ⟨c0, h1, h2⟩ := h.it
  exact ⟨hk.same b _ h.map rfl, ⟨c0, hk.same r _ h1 rfl, h2⟩, h.nodup, h.lt⟩
theorem MIt.kept {w w' : World} {kf : κ → Value} {vf : α → Value} {b r : Nat} {ml : List (κ × α)} {seen : List Nat} (h : MIt w kf vf b r ml seen) (hg : w.grownBy w' none) : MIt w' kf vf b r ml seen := by
  obtain ⟨c0, h1, h2⟩ := h.it
  exact ⟨(hg.block b (Array.getElem?_eq_some_iff.1 h.map).1 (by simp)).trans h.map, ⟨c0, (hg.block r (Array.getElem?_eq_some_iff.1 h1).1 (by simp)).trans h1, h2⟩, h.nodup, h.lt⟩
theorem MIt.iter_walk {w : World} {kf : κ → Value} {vf : α → Value} {b r : Nat} {ml : List (κ × α)} {seen : List Nat} (h : MIt w kf vf b r ml seen) : ∃ o : Obj, w.heap[r]? = some o ∧ o.isWalk = true := by
  obtain ⟨c0, h1, _⟩ := h.it
  exact ⟨_, h1, rfl⟩
theorem MIt.left_eq {w : World} {kf : κ → Value} {vf : α → Value} {b r : Nat} {ml : List (κ × α)} {seen : List Nat} (h : MIt w kf vf b r ml seen) : w.rangeLeft b r = (leftOf (mEs kf vf 0 ml).toArray seen.toArray).size := by
  obtain ⟨c0, h1, _⟩ := h.it
  simp only [World.rangeLeft, h.map, h1]
theorem nodup_lt_length : ∀ (n : Nat) (l : List Nat), l.Nodup → (∀ i ∈ l, i < n) → l.length ≤ n
  | 0, l, _, h => by
    cases l with
    | nil => exact Nat.le_refl _
    | cons x l => exact absurd (h x (by simp)) (Nat.not_lt_zero _)
  | n + 1, l, hn, h => by
    have h1 : (l.erase n).Nodup := hn.erase n
    have h2 : ∀ i ∈ l.erase n, i < n := fun i hi => by
      have h3 := h i (List.mem_of_mem_erase hi)
      have h4 : i ≠ n := fun e => by subst e; exact (List.Nodup.not_mem_erase hn) hi
      omega
    have h5 := nodup_lt_length n _ h1 h2
    have h6 := List.length_erase (a := n) (l := l)
    split at h6 <;> omega
theorem MIt.len {w : World} {kf : κ → Value} {vf : α → Value} {b r : Nat} {ml : List (κ × α)} {seen : List Nat} (h : MIt w kf vf b r ml seen) : seen.length ≤ ml.length := nodup_lt_length _ _ h.nodup h.lt
theorem MIt.next {P : Program} {w : World} {kf : κ → Value} {vf : α → Value} {b r : Nat} {ml : List (κ × α)} {seen : List Nat} (h : MIt w kf vf b r ml seen) (ty : TypeId) :
    (seen.Perm (List.range ml.length) ∧ (Instr.next (.pointer (some ⟨r, 0, none⟩)) false ty).run P w = .ok (.tuple #[.bool false]) w) ∨
    ∃ (i : Nat) (x : κ × α) (w' : World), ml[i]? = some x ∧ (Instr.next (.pointer (some ⟨r, 0, none⟩)) false ty).run P w = .ok (.tuple #[.bool true, kf x.1, vf x.2]) w' ∧ MIt w' kf vf b r ml (seen ++ [i]) ∧
      w'.rangeLeft b r < w.rangeLeft b r ∧ w.grownBy w' (some r) ∧ w'.heap.size = w.heap.size ∧ (Instr.entry (.pointer (some ⟨r, 0, none⟩))).run P w' = .ok (.tuple #[kf x.1, vf x.2]) w' := by
  obtain ⟨c0, hr, hc⟩ := h.it
  have hne := h.ne
  rcases run_next_at (P := P) w ty r b ml.length c0 seen.toArray _ ml.length hr h.map mEs_lt hc with ⟨h0, hrun⟩ | ⟨e, he, w1, hal, hrun⟩
  · refine .inl ⟨?_, hrun⟩
    refine (List.perm_ext_iff_of_nodup h.nodup List.nodup_range).2 fun i => ⟨fun hi => List.mem_range.2 (h.lt i hi), fun hi => ?_⟩
    have hlt : i < ml.length := List.mem_range.1 hi
    have h1 := mEs_get kf vf ml 0 i
    rw [List.getElem?_eq_getElem hlt] at h1
    have h2 := all_seen (mEs kf vf 0 ml).toArray seen.toArray h0 _ (by simpa using List.mem_of_getElem? h1)
    simpa using h2
  · obtain ⟨hem, hes⟩ := mem_left he
    obtain ⟨i, hi⟩ := List.getElem?_of_mem (by simpa using hem : e ∈ mEs kf vf 0 ml)
    rw [mEs_get] at hi
    obtain ⟨x, hx, rfl⟩ := Option.map_eq_some_iff.1 hi
    simp only [Nat.zero_add] at *
    have hlt : i < ml.length := (List.getElem?_eq_some_iff.1 hx).1
    have hr1 : w1.heap[r]? = some (.mapIter (some b) ml.length seen.toArray c0) := by rcases hal with rfl | rfl <;> exact hr
    have hb1 : w1.heap[b]? = some (.map (mEs kf vf 0 ml).toArray ml.length) := by rcases hal with rfl | rfl <;> exact h.map
    have hset := heap_set (o' := .mapIter (some b) ml.length (seen.toArray.push i) ml.length) hr1
    have hb' : (setBlock w1 r (.mapIter (some b) ml.length (seen.toArray.push i) ml.length)).heap[b]? = some (.map (mEs kf vf 0 ml).toArray ml.length) := (hset.2 b (fun e1 => hne e1.symm)).trans hb1
    have hni : i ∉ seen := by simpa using hes
    refine .inr ⟨i, x, _, hx, hrun, ⟨hb', ⟨ml.length, by rw [show (seen ++ [i]).toArray = seen.toArray.push i by simp]; exact hset.1, Nat.le_refl _⟩, ?_, fun j hj => ?_⟩, ?_, ?_, ?_, ?_⟩
    · exact List.nodup_append.2 ⟨h.nodup, by simp, fun a ha c hc e => by simp at hc; subst hc; subst e; exact hni ha⟩
    · rcases List.mem_append.1 hj with hj | hj
      · exact h.lt j hj
      · simp at hj; subst hj; exact hlt
    · have := left_shrinks (mEs kf vf 0 ml).toArray seen.toArray _ he
      have h1 : (setBlock w1 r (.mapIter (some b) ml.length (seen.toArray.push i) ml.length)).heap[r]? = _ := hset.1
      simp only [World.rangeLeft, hb', h1, h.map, hr]
      exact this
    · rcases hal with rfl | rfl <;> exact ⟨rfl, rfl, rfl, by simp [setBlock], fun k _ hk => hset.2 k (fun e1 => hk (by rw [e1]))⟩
    · rcases hal with rfl | rfl <;> simp [setBlock]
    · exact run_entry_at _ r b ml.length seen.toArray _ ml.length _ hset.1 hb' hem (by
        have := mEs_born kf vf ml 0
        simp only [this]
        exact List.nodup_range')
end
section
variable {κ α : Type} {P : Program} {F : Fence} {n : Nat} {ops : Array Oper} {Q : Exit → Act → World → Prop} {o : Oper} {rest : List Oper} {a : Act}
theorem wpListIn_range_mE (w : World) (hg : o.guard = none) (m : Operand) (t : TypeId) (hop : o.op = Op.range t m) {k e : TypeId} (ht : P.underlying t = some (.map k e)) {kf : κ → Value} {vf : α → Value} (b : Nat) (ml : List (κ × α))
    (hm : a.eval m = .map (some b)) (hb : w.heap[b]? = some (.map (mEs kf vf 0 ml).toArray ml.length))
    (hK : ∀ w', MIt w' kf vf b w.heap.size ml [] → w.grownBy w' none → w'.heap.size = w.heap.size + 1 → wpListIn F n P ops Q rest (a.put o.dst (.pointer (some ⟨w.heap.size, 0, none⟩))) w') :
    wpListIn F n P ops Q (o :: rest) a w := by
  refine wpListIn_plain hg fun K' hK' => ?_
  unfold Oper.wpIn
  refine ⟨?_, ?_⟩
  · simp [Oper.about, hop]
  · rw [Oper.semAt_plain F _ _ (by rw [hop]; intro c hc'; cases hc')]
    have hrun := run_range_map w t k e b _ ml.length ht hb
    have hlt : b < w.heap.size := (Array.getElem?_eq_some_iff.1 hb).1
    simp [execOp, hop, hm, hrun, Result.andThen]
    refine hK' _ _ (hK _ ⟨((MapKept.heap_alloc w _).2 b hlt).trans hb, ⟨ml.length, (MapKept.heap_alloc w _).1, Nat.le_refl _⟩, by simp, by simp⟩ (World.grownBy_alloc w _ none) (by simp))
theorem wpListIn_next_mE (w : World) (hg : o.guard = none) (it : Operand) (hop : o.op = Op.next it false) {kf : κ → Value} {vf : α → Value} (b r : Nat) (ml : List (κ × α)) (seen : List Nat)
    (hit : a.eval it = .pointer (some ⟨r, 0, none⟩)) (h : MIt w kf vf b r ml seen)
    (hDone : seen.Perm (List.range ml.length) → wpListIn F n P ops Q rest (a.put o.dst (.tuple #[.bool false])) w)
    (hMore : ∀ (i : Nat) (x : κ × α) (w' : World), ml[i]? = some x → MIt w' kf vf b r ml (seen ++ [i]) → w'.rangeLeft b r < w.rangeLeft b r →
      w.grownBy w' (some r) → w'.heap.size = w.heap.size → (Instr.entry (.pointer (some ⟨r, 0, none⟩))).run P w' = .ok (.tuple #[kf x.1, vf x.2]) w' → wpListIn F n P ops Q rest (a.put o.dst (.tuple #[.bool true, kf x.1, vf x.2])) w') :
    wpListIn F n P ops Q (o :: rest) a w := by
  refine wpListIn_plain hg fun K' hK' => ?_
  unfold Oper.wpIn
  refine ⟨by simp [Oper.about, hop], ?_⟩
  rw [Oper.semAt_plain F _ _ (by rw [hop]; intro c hc'; cases hc')]
  rcases h.next (P := P) o.type with ⟨h0, hrun⟩ | ⟨i, x, w', hx, hrun, hmi, hlt, hgr, hsz, hen⟩
  · simp [execOp, hop, hit, hrun, Result.andThen]
    exact hK' _ _ (hDone h0)
  · simp [execOp, hop, hit, hrun, Result.andThen]
    exact hK' _ _ (hMore i x w' hx hmi hlt hgr hsz hen)
end

/-- The values in the order in which the entries have come. -/
def valsAt (ml : List (Int × Itm)) (seen : List Nat) : List Int := seen.map fun i => ((ml[i]?).map (·.1)).getD default
theorem valsAt_perm {ml : List (Int × Itm)} {seen : List Nat} (h : seen.Perm (List.range ml.length)) : (valsAt ml seen).Perm (ml.map (·.1)) := by
  refine (h.map _).trans (List.Perm.of_eq ?_)
  apply List.ext_getElem?
  intro i
  rw [List.getElem?_map, List.getElem?_map]
  rcases Nat.lt_or_ge i ml.length with hi | hi
  · rw [List.getElem?_range hi]; simp [hi]
  · rw [List.getElem?_eq_none (by simpa using hi), List.getElem?_eq_none hi]; rfl
theorem valsAt_step {ml : List (Int × Itm)} {seen : List Nat} {i : Nat} {x : Int × Itm} (h : ml[i]? = some x) : valsAt ml (seen ++ [i]) = valsAt ml seen ++ [x.1] := by
  simp [valsAt, h]

set_option maxRecDepth 100000 in
set_option maxHeartbeats 1000000 in
/-- maps.Values's iterator, for every loop body. -/
theorem vals1_in (F : Fence) (n : Nat) (h8 : F.fn 52) (hro : F.round = none) (hn : 1 ≤ n) (l Bm b : Nat) (ml : List (Int × Itm)) (J Jx : List Int → World → Prop)
    (hY : ∀ pre x W, J pre W → pre.length < ml.length → YieldAt F (n - 1) Try.prog l #[.int .i64 x] W fun e W' =>
      (e = .returned (.bool true) ∧ J (pre ++ [x]) W' ∧ KeepsWalks W W') ∨ (e = .returned (.bool false) ∧ Jx (pre ++ [x]) W'))
    (W : World) (hJ : AbidesFrom W.heap.size J) (hm : W.cell? ⟨Bm, 0, none⟩ = some (.map (some b))) (hb : W.heap[b]? = some (.map (mEs kfZ vfT 0 ml).toArray ml.length)) (h0 : J [] W) :
    CallsIn F n Try.prog 52 #[.func (.yield l) #[] #[], .pointer (some ⟨Bm, 0, none⟩)] W fun e W' => (∃ v, e = .returned v) ∧
      ((∃ xs, xs.Perm (ml.map (·.1)) ∧ J xs W') ∨ (∃ pre, True ∧ Jx pre W')) := by
  refine callsIn_of_wp Try.func52 rfl h8 ?_ hro
  simp only [Try.ntmps52, List.size_toArray, List.length_cons, List.length_nil, Nat.reduceAdd, Nat.reduceSub, Array.replicate_succ, Array.replicate_zero, List.push_toArray, List.append_toArray, List.nil_append, List.cons_append]
  gi_wp2_with (first
    | (gi_at_range; refine wpListIn_range_mE _ rfl _ 64 rfl Try.underlying64 b ml rfl hb ?_; intro w0 hrg0 hg0 hs0)
    | gi_in)
  go_frame
  gi_loopw [3] (fun _ wr => ∃ (seen : List Nat), MIt wr kfZ vfT b W.heap.size ml seen ∧ J (valsAt ml seen) wr)
    (fun _ wr => wr.rangeLeft b W.heap.size)
  case atStart =>
    exact ⟨[], hrg0, hJ [] W w0 none h0 hg0 (fun r e => by cases e)⟩
  case round =>
    obtain ⟨seen, hrg, hJs⟩ := hrel
    gi_wp2_with (first
      | (gi_at_next; refine wpListIn_next_mE _ rfl _ rfl b W.heap.size ml seen rfl hrg ?_ ?_)
      | gi_in)
    · intro hp
      gi_wp2
      go_end0
      exact ⟨⟨_, rfl⟩, .inl ⟨_, valsAt_perm hp, hJs⟩⟩
    · intro i k x w2 hx hrg2 hlt hg2 hs2 hen
      have hJ2 : J (valsAt ml seen) w2 := hJ _ wr w2 (some W.heap.size) hJs hg2 (fun r e => by cases e; exact ⟨Nat.le_refl _, hrg.iter_walk⟩)
      have hlen := hrg2.len
      obtain ⟨fn, tmps, assign, body, hy, hR⟩ := hY (valsAt ml seen) k _ hJ2 (by simp [valsAt] at hlen ⊢; omega)
      clear hs2
      gi_wp2
      refine hR.mono ?_
      rintro e W3 (⟨rfl, hJ4, hk3⟩ | ⟨rfl, hJx3⟩)
      · gi_wp2
        have hrg3 := hrg2.walks hk3
        go_roundw
        case rel => exact ⟨_, hrg3, by rw [valsAt_step hx]; exact hJ4⟩
        case measure => rw [hrg3.left_eq, ← hrg2.left_eq]; exact hlt
      · gi_wp2
        refine bodyPost_ret (results_none rfl _ _ _) rfl ?_
        exact ⟨⟨_, rfl⟩, .inr ⟨_, trivial, hJx3⟩⟩
theorem vals_stops (F : Fence) (n : Nat) (h8 : F.fn 52) (hro : F.round = none) (hn : 1 ≤ n) (Bm b : Nat) (ml : List (Int × Itm)) (w : World) (hBm : Bm < w.heap.size)
    (hm : w.cell? ⟨Bm, 0, none⟩ = some (.map (some b))) (hb : w.heap[b]? = some (.map (mEs kfZ vfT 0 ml).toArray ml.length)) :
    SeqStopsK F n Try.prog 52 #[.pointer (some ⟨Bm, 0, none⟩)] (fun x : Int => #[.int .i64 x]) KeepsWalks (fun xs => xs.Perm (ml.map (·.1))) (fun _ => True) ml.length w := fun l J Jx W hW hJ _ hY h0 =>
  vals1_in F n h8 hro hn l Bm b ml J Jx hY W hJ ((hW.cell (p := ⟨Bm, 0, none⟩) hBm).trans hm) ((hW.block b (Array.getElem?_eq_some_iff.1 hb).1).trans hb) h0

theorem cells_new (w : World) (xs : List Value) (t : TypeId) : ∀ j u, xs[j]? = some u → (w.alloc (.cells xs.toArray t)).cell? ((⟨w.heap.size, 0, none⟩ : Addr).add j) = some u := fun j u hj => by
  rw [add_addr]
  exact cell_of_blk (heap_alloc_new' w _) (by simpa using hj)
theorem rng_info : (Try.prog.info? 3).map (fun i => (i.zero, i.size, i.bytes)) = some (some (.int .i64 0), 1, 8) := by kernel_rfl
theorem cellsOwn {β : Type} (B : Nat) (o : Obj) (ho : o.isCells = true) : Own (fun (_ : β) W => W.heap[B]? = some o) := fun _ X Y row hs hg hrow => by
  refine (hg.block B (Array.getElem?_eq_some_iff.1 hs).1 fun e' => ?_).trans hs
  obtain ⟨o', h1, h2⟩ := hrow B e'.symm
  rw [hs] at h1; cases h1; rw [ho] at h2; cases h2
set_option maxRecDepth 100000 in
set_option maxHeartbeats 2000000 in
/-- slices.AppendSeq(nil, seq). -/
theorem appendSeq_in (F : Fence) (n : Nat) (h59 : F.fn 61) (hro : F.round = none) (hn : 2 ≤ n) (g : Nat) (lb : Array Value) (hFg : F.fn g) (eg : ∀ args w, (callFunc g args).run Try.prog w = .ok (.enter g args) w)
    (S Sp : List Int → Prop) (N : Nat) (hN : N ≤ 1000000) (w : World) (hseq : SeqStopsK F (n - 1) Try.prog g lb (fun x : Int => #[.int .i64 x]) KeepsWalks S Sp N w) :
    CallsIn F n Try.prog 61 #[.slice none 0 0, .func (.func g) #[] lb] w fun e w' => ∃ (v : Value) (ss : List Int), e = .returned v ∧ S ss ∧ w'.ownsRow w.heap.size 3 1 v ss.length (zK.all ss) ∧ Below w.heap.size w w' := by
  have h1 : 1 ≤ n := by omega
  obtain ⟨i0, hi, hz0, hz1, hz2⟩ := info_parts rng_info
  refine callsIn_of_wp_marks Try.func61 rfl h59 ?_ hro
  simp only [Try.ntmps61, List.size_toArray, List.length_cons, List.length_nil, Nat.reduceAdd, Nat.reduceSub, Array.replicate_succ, Array.replicate_zero, List.push_toArray, List.append_toArray, List.nil_append, List.cons_append]
  gi_wp2
  have bO := Boxed.new w 57 (.slice none 0 0)
  have hB0 : Below w.heap.size w (w.alloc (.cells #[.slice none 0 0] 57)) := (Below.refl _ w).alloc (Nat.le_refl _) _
  refine wpIn_rangeFunc_ownH hro h1 (gf := g) (lb := lb) rfl hFg eg hseq walksK_t walksK_b hB0 (fun _ => rfl)
    (fun pre W => (∃ v, Boxed W w.heap.size 57 v ∧ W.ownsRow w.heap.size 3 1 v pre.length (zK.all pre) ∧ True) ∧ Below w.heap.size w W)
    (fun _ _ _ => False)
    (OwnFrom.and (Own.from (holdsRow_own w.heap.size w.heap.size 57 3 1 (fun pre => pre.length) (fun pre => zK.all pre) (fun _ _ => True)) _) (ownFrom_below (Nat.le_refl _) (by simp)))
    (fun _ _ _ _ _ hs _ _ => hs)
    ⟨⟨_, bO, World.ownsRow_nil _ _ _ _, trivial⟩, hB0⟩
    (fun x a' W => a' = { tmps := #[.slice none 0 0, .func (.func g) #[] lb, .pointer (some ⟨w.heap.size, 0, none⟩), undef, .slice none 0 0, .int .i64 x, .func (.func g) #[] lb, .int .i64 x, undef, undef, undef, undef, undef], defers := [] })
    (fun x a' s X Y row h hg hr => h) ?assign ?body ?done ?stop
  case assign =>
    rintro l pre x W K ⟨⟨v, hv, hrow, _⟩, hB⟩ hK
    gi_wp2
    exact hK _ _ ((KeepsOthers.refl _).from _) (KeepsWalks.refl _) ⟨⟨v, hv, hrow, trivial⟩, hB⟩ rfl
  case body =>
    rintro l pre x a' W hl ⟨r, hr⟩ ⟨⟨v, hv, hrow, _⟩, hB⟩ rfl hlt
    have hc := hv.cell
    have hsz := hB.size
    gi_wp2_with (gi_at_builtin; refine wpListIn_append_own _ rfl _ _ 57 rfl w.heap.size 3 i0 (.int .i64 0) 1 8 Try.underlying57 hi hz0 hz1 hz2 rfl (by decide) _ _ _ rfl (hrow.alloc _) ⟨W.heap.size, 0, none⟩ 1 1 (zK.enc x) rfl rfl (cells_new _ _ _) (zK.one x) (by simp only [maxLen]; omega) (by omega) (by simp; omega) ?_; intro v' w1 hown' hgrow _; obtain ⟨g', cap', rfl⟩ := ownsRow_succ hown'; obtain ⟨hv1, hv2, hr2, hk2, hb2⟩ := hv.appended (by decide) hrow hB.size (Nat.le_refl _) hown' hgrow; have hc1 := hv1.cell; have hf1 := hv1.frozen)
    have e2 : zK.all (pre ++ [x]) = zK.all pre ++ zK.enc x := by rw [zK.all_append]; simp [Ek.all]
    have hr3 := hr2
    rw [← e2] at hr3
    exact ⟨hk2.from _, hk2.walks, ⟨⟨_, hv2, by rw [show (pre ++ [x]).length = pre.length + 1 by simp]; exact hr3⟩, hB.trans hb2⟩⟩
  case done =>
    rintro D ys W hD hS ⟨⟨v, hv, hrow, _⟩, hB⟩ hK
    have hc := hv.cell
    gi_wp2
    refine ⟨by simp, .inl ⟨_, _, rfl, run_takeDeferred hK, ?_⟩⟩
    exact ⟨_, results_tmp rfl _ _ _, v, ys, rfl, hS, ownsRow_putObj hrow _ hK rfl, hB.trans (belowK_b (w := w) (Nat.le_refl _) W D _ _ (by simp at hD; omega) hK rfl rfl)⟩
  case stop =>
    rintro D c pre W _ _ h _
    exact h.elim

set_option maxHeartbeats 1000000 in
/-- slices.Collect(seq). -/
theorem collect_in (F : Fence) (n : Nat) (h8 : F.fn 50) (h59 : F.fn 61) (hro : F.round = none) (hn : 3 ≤ n) (g : Nat) (lb : Array Value) (hFg : F.fn g) (eg : ∀ args w, (callFunc g args).run Try.prog w = .ok (.enter g args) w)
    (S Sp : List Int → Prop) (N : Nat) (hN : N ≤ 1000000) (w : World) (hseq : SeqStopsK F (n - 1 - 1) Try.prog g lb (fun x : Int => #[.int .i64 x]) KeepsWalks S Sp N w) :
    CallsIn F n Try.prog 50 #[.func (.func g) #[] lb] w fun e w' => ∃ (v : Value) (ss : List Int), e = .returned v ∧ S ss ∧ w'.ownsRow w.heap.size 3 1 v ss.length (zK.all ss) ∧ Below w.heap.size w w' := by
  have h1 : 1 ≤ n := by omega
  refine callsIn_of_wp Try.func50 rfl h8 ?_ hro
  simp only [Try.ntmps50, List.size_toArray, List.length_cons, List.length_nil, Nat.reduceAdd, Nat.reduceSub, Array.replicate_succ, Array.replicate_zero, List.push_toArray, List.append_toArray, List.nil_append, List.cons_append]
  gi_wp2_with (gi_at_call 61; refine (appendSeq_in F (n - 1) h59 hro (by omega) g lb hFg eg S Sp N hN _ hseq).mono ?_; rintro e w' ⟨v, ss, rfl, hS, hrow, hb⟩)
  go_ret
  exact ⟨v, ss, rfl, hS, hrow, hb⟩
section
variable {α : Type}
theorem ownsRow_base0 {w : World} {base E sz n : Nat} {v : Value} {xs : List Value} (h : w.ownsRow base E sz v n xs) : w.ownsRow 0 E sz v n xs ∧ ∀ k, v.ownBlock = some k → base ≤ k := by
  obtain ⟨hl, h | ⟨g, cap, cur, rfl, hb, hg, hr⟩⟩ := h
  · refine ⟨⟨hl, .inl h⟩, fun k hk => ?_⟩
    rw [h.1] at hk; simp [Value.ownBlock] at hk
  · exact ⟨⟨hl, .inr ⟨g, cap, cur, rfl, Nat.zero_le _, hg, hr⟩⟩, fun k hk => by simp [Value.ownBlock] at hk; omega⟩
/-- A new row of whatever list of a kind. -/
def IsRE (k : Ek α) (E : TypeId) (φ : List α → Prop) : Value → Hp → Hp → Prop := fun v N H => ∃ x, φ x ∧ N = [rowE k E v x] ∧ H = []
end
theorem c_collect {bm b : Nat} {ml : List (Int × Itm)} (hN : ml.length ≤ 1000000) :
    Fn Try.prog 50 [.func (.func 52) #[] #[.pointer (some ⟨bm, 0, none⟩)]] [mapE kfZ vfT b ml, .blk bm (.cells #[.map (some b)] 64)] [] (IsRE zK 3 (fun xs => xs.Perm (ml.map (·.1)))) := by
  refine ⟨⟨_, Try.func50, by kernel_rfl, by kernel_rfl⟩, fun w hw => callsIn_wide (n := 3).1 ?_⟩
  have hb : w.heap[b]? = some (.map (mEs kfZ vfT 0 ml).toArray ml.length) := hw.hasS (mapE kfZ vfT b ml) (by simp)
  have hm : w.heap[bm]? = some (.cells #[.map (some b)] 64) := hw.hasS (.blk bm (.cells #[.map (some b)] 64)) (by simp)
  have hs := vals_stops Fence.wide 1 trivial rfl (Nat.le_refl _) bm b ml w (Array.getElem?_eq_some_iff.1 hm).1 (cell_of_blk hm rfl) hb
  refine (collect_in Fence.wide 3 trivial trivial rfl (Nat.le_refl _) 52 #[.pointer (some ⟨bm, 0, none⟩)] trivial (enters_of Try.func52 (by kernel_rfl) rfl) _ _ ml.length hN w hs).mono ?_
  rintro e w' ⟨v, ss, rfl, hS, hrow, hbl⟩
  obtain ⟨h1, h2⟩ := ownsRow_base0 hrow
  refine ⟨v, [rowE zK 3 v ss], [], ⟨ss, hS, rfl, rfl⟩, rfl, ?_⟩
  have := hw.addN (w' := w') (e' := rowE zK 3 v ss) (fun k hk => h2 k hk) h1 hbl.os hbl.tape hbl.output hbl.size (fun k hk => hbl.block k hk)
  exact this
end Go.Proofs.Ytimclnhklaldfaa
