/- The verifier's own engine, thirteenth part: regions whose effects may come up in many orders: node by node, a node is what has been listed. -/
import Derived.Test.YtimclnhklaldfaaEngL
namespace Go.Proofs.Ytimclnhklaldfaa
open Go Go.RowKit
set_option linter.unusedSectionVars false
variable [Df]
set_option linter.unusedVariables false
section
variable {P : Program} {w0 : World} {n : Nat} {S N H : Hp} {l : Fr} {ops : Array Oper} {X : Act → World → Prop} {C : World → Prop}
/-- What comes up next at a node: an effect, the silent steps behind it, and the node that follows. -/
abbrev NodeR := Nat × List (Bool × Nat) × Nat × Array Bool
def nodeOk (ops : Array Oper) (m : Nat) (listed : Array Bool) (rs : List NodeR) : Bool :=
  (Region.ready .any ops listed == rs.map (·.1)) && (!rs.isEmpty) && rs.all fun r => (schTo .any ops r.2.1 (listed.setIfInBounds r.1 true) == some r.2.2.2) && (r.2.2.1 + (r.2.1.length + 1) == m)
def AllN (f : NodeR → Prop) : List NodeR → Prop
  | [] => True
  | [r] => f r
  | r :: rs => f r ∧ AllN f rs
theorem AllN.all {f : NodeR → Prop} : ∀ {rs : List NodeR}, AllN f rs → ∀ r ∈ rs, f r
  | [], _, r, h => absurd h (by simp)
  | [x], h, r, hr => by simp at hr; subst hr; exact h
  | x :: y :: rs, h, r, hr => by
    rcases List.mem_cons.1 hr with rfl | hr
    · exact h.1
    · exact AllN.all h.2 r hr
theorem At.dag {id : Nat} {Q : Exit → Act → World → Prop} (pre : List (Bool × Nat)) (m0 : Nat) (listed0 : Array Bool) (L : Hp) (hL : ∀ e ∈ L, e ∈ S ++ (N ++ H)) (hm : P.follows .mixedOrders = true)
    (hk : (Region.noSelect ops && (m0 + pre.length == ops.size) && (schTo .any ops pre (Array.replicate ops.size false) == some listed0)) = true)
    (h : ∀ G : Nat → Array Bool → Act → World → Prop,
      (∀ (l : Fr) (N : Hp) (m : Nat) (listed : Array Bool) (rs : List NodeR), nodeOk ops m listed rs = true → Cl w0 S N H (Kept L) →
        AllN (fun r => At w0 n S l N H (wpSch P ops (Kept L) (G r.2.2.1 r.2.2.2) ((false, r.1) :: r.2.1))) rs → At w0 n S l N H (G m listed)) →
      (∀ (l : Fr) (N : Hp) (listed : Array Bool), (Region.ready .any ops listed).isEmpty = true → At w0 n S l N H (Q .normal) → At w0 n S l N H (G 0 listed)) →
      At w0 n S l N H (wpSch P ops (Kept L) (G m0 listed0) pre)) : At w0 n S l N H ((Code.region id ops true).wp P Q) := fun a w ha hw => by
  simp only [Bool.and_eq_true, beq_iff_eq] at hk
  obtain ⟨⟨h1, h2⟩, h3⟩ := hk
  refine Code.wp_mono (noQ_imp fun _ _ h => h) (wp_region_held (S := Kept L) hm ?_)
  have hC : Kept L w.drew := fun e he => Cl.kept hL _ hw.drew e he
  have hG := h (fun m listed a w => Kept L w → wpAnyH P .any ops (NoQ (Q .normal)) (Kept L) m listed a w) ?_ ?_
  · have := wpSch_to (P := P) (md := .any) h1 m0 listed0 (fun a w hC hh => hh hC) pre _ a w.drew hC h3 (hG a w.drew ha hw.drew)
    rwa [h2] at this
  · intro l N m listed rs hok hCl hall a w ha hw hCw
    simp only [nodeOk, Bool.and_eq_true, beq_iff_eq, List.all_eq_true] at hok
    obtain ⟨⟨k0, k1⟩, k2⟩ := hok
    obtain ⟨m', rfl⟩ : ∃ m', m = m' + 1 := by
      cases rs with
      | nil => simp at k1
      | cons r rs => have := (k2 r (by simp)).2; exact ⟨m - 1, by omega⟩
    refine wpAnyH_all k0 (by cases rs <;> simp_all) fun q hq => ?_
    obtain ⟨r, hr, rfl⟩ := List.mem_map.1 hq
    obtain ⟨k3, k4⟩ := k2 r hr
    have h5 := hall.all r hr a w ha hw
    refine wpOp_mono (fun a' w' h' => ⟨h'.1, ?_⟩) (wpOp_QF h5)
    have := wpSch_to (P := P) (md := .any) h1 r.2.2.1 r.2.2.2 (fun a w hC hh => hh hC) r.2.1 _ a' w' h'.1 k3 h'.2
    rwa [show r.2.2.1 + r.2.1.length = m' from by omega] at this
  · intro l N listed hr hX a w ha hw _
    show wpAnyH P .any ops (NoQ (Q .normal)) (Kept L) 0 listed a w
    exact ⟨by simpa using hr, hX a w ha hw⟩
end
section
variable {κ α : Type} [DecidableEq κ]
variable {P : Program} {w0 : World} {n : Nat} {S N H : Hp} {l : Fr} {ops : Array Oper} {C : World → Prop} {K : Act → World → Prop} {r : List (Bool × Nat)} {i : Nat}
theorem At.mapIns {T kt et ty : TypeId} {pos : String} {af : Array Edge} {gd : Option (Nat × Bool)} {m x y : Operand} {kf : κ → Value} {vf : α → Value} {b : Nat} {ml : List (κ × α)} {k : κ} {v : α} {N' H' : Hp}
    (ho : ops[i]? = some ⟨none, .insert T m x y, ty, pos, af, gd⟩) (hg : wantG ops l ⟨none, .insert T m x y, ty, pos, af, gd⟩ = some true) (hT : P.underlying T = some (.map kt et)) (hk : KeyOk P kt kf)
    (hm : Ev n l true m (.map (some b))) (hx : Ev n l true x (kf k)) (hy : Ev n l true y (vf v)) (hu : Up N H (mapE kf vf b ml) (mapE kf vf b (aput ml k v)) N' H')
    (h : Cl w0 S N' H' C ∧ At w0 n S l N' H' (wpSch P ops C K r)) : At w0 n S l N H (wpSch P ops C K ((false, i) :: r)) :=
  At.eW (d := none) ho hg fun a w ha hw => by
    have hmem : mapE kf vf b ml ∈ N ++ H := by cases hu with | n hl => exact List.mem_append_left _ hl.mem | h hl => exact List.mem_append_right _ hl.mem
    have hb : w.heap[b]? = some (.map (mEs kf vf 0 ml).toArray ml.length) := hw.has _ hmem
    have hlt : b < w.heap.size := (Array.getElem?_eq_some_iff.1 hb).1
    have hrun : (execOp a.eval ⟨none, .insert T m x y, ty, pos, af, gd⟩).run P w = .ok .skip { w with heap := w.heap.setIfInBounds b (.map (mEs kf vf 0 (aput ml k v)).toArray (aput ml k v).length) } := by
      have hf := hk.find _ vf k ml w
      have hupd : (Instr.mapUpdate T (.map (some b)) (kf k) (vf v)).run P w = .ok () { w with heap := w.heap.setIfInBounds b (.map (mEs kf vf 0 (aput ml k v)).toArray (aput ml k v).length) } := by
        unfold aput
        cases hi : aidx ml k 0 with
        | none =>
          rw [hi] at hf
          simp only [Option.map_none] at hf
          have e1 : (mEs kf vf 0 (ml ++ [(k, v)])).toArray = (mEs kf vf 0 ml).toArray.push { key := kf k, val := vf v, born := ml.length } := by
            rw [mEs_append]; simp
          simp [Instr.mapUpdate, run_underlying hT, MapKept.run_getObj_map hb, hk.chk, hf, MapKept.run_setObj_map _ hb, Result.andThen, e1]
        | some jv =>
          obtain ⟨j, u⟩ := jv
          rw [hi] at hf
          simp only [Option.map_some] at hf
          obtain ⟨h1, h2⟩ := aidx_spec ml k 0 j u hi
          simp only [Nat.sub_zero] at h2
          have e1 : (mEs kf vf 0 ml)[j]? = some { key := kf k, val := vf u, born := 0 + j } := by rw [mEs_get, h2]; rfl
          have e2 := mEs_modify kf vf ml j k v
          simp at e2
          have e3 : (Instr.keyThatStays (kf k) (kf k)).run P w = .ok (kf k) w := by simp [Instr.keyThatStays, hk.bits]
          simp [Instr.mapUpdate, run_underlying hT, MapKept.run_getObj_map hb, hk.chk, hf, MapKept.run_setObj_map _ hb, Result.andThen, e1, e3, e2]
      simp [execOp, hm rfl a ha, hx rfl a ha, hy rfl a ha, hupd]
    unfold Oper.wp
    rw [hrun, Oper.upon_skip]
    have := hw.upd (w' := { w with heap := w.heap.setIfInBounds b (.map (mEs kf vf 0 (aput ml k v)).toArray (aput ml k v).length) }) hu rfl (show (Ent.blk b (.map (mEs kf vf 0 (aput ml k v)).toArray (aput ml k v).length)).holds _ from by simp [Ent.holds, hlt]) rfl rfl rfl (by simp) fun q _ hq => by
      have : b ≠ q := fun e => hq (by rw [e]; rfl)
      simp [this]
    exact ⟨h.1 _ this, h.2 _ _ ha this⟩

end
section
variable {κ α : Type} [DecidableEq κ]
theorem aidx_none : ∀ {l : List (κ × α)} {k : κ} {i : Nat}, (∀ e ∈ l, e.1 ≠ k) → aidx l k i = none
  | [], _, _, _ => rfl
  | x :: r, k, i, h => by
    simp only [aidx]
    rw [if_neg (fun e => h x (by simp) e.symm)]
    exact aidx_none fun e he => h e (by simp [he])
theorem aput_new {l : List (κ × α)} {k : κ} {v : α} (h : ∀ e ∈ l, e.1 ≠ k) : aput l k v = l ++ [(k, v)] := by
  unfold aput
  rw [aidx_none h]
theorem perm_put {l m : List (κ × α)} {k : κ} {v : α} (h : l.Perm m) (hk : ∀ e ∈ m, e.1 ≠ k) : (aput l k v).Perm (m ++ [(k, v)]) := by
  rw [aput_new fun e he => hk e (h.mem_iff.1 he)]
  exact h.append_right _
theorem perm_xy {β : Type} {x y : β} : ([x] ++ [y]).Perm [y, x] := List.Perm.swap _ _ _
theorem perm_xzy {β : Type} {x y z : β} : ([x, z] ++ [y]).Perm [x, y, z] := (List.Perm.swap _ _ _).cons _
theorem perm_yzx {β : Type} {x y z : β} : ([y, z] ++ [x]).Perm [x, y, z] := List.perm_append_comm (l₁ := [y, z]) (l₂ := [x])
end
/-- What a range over a map tells next. -/
def nextV {κ α : Type} [Inhabited κ] [Inhabited α] (kf : κ → Value) (vf : α → Value) (ml : List (κ × α)) : Option Nat → Value
  | none => .tuple #[.bool false]
  | some j => .tuple #[.bool true, kf (gE ml (j : Int)).1, vf (gE ml (j : Int)).2]
def NextO {κ α : Type} (ml : List (κ × α)) (seen : List Nat) (o : Option Nat) : Prop := (o = none → ∀ j, j < ml.length → j ∈ seen) ∧ ∀ j, o = some j → j < ml.length ∧ j ∉ seen
theorem R.extractNext {κ α : Type} [Inhabited κ] [Inhabited α] {P : Program} {n : Nat} {l : Fr} {C : World → Prop} {g : Bool} {d : Option Tmp} {x : Operand} {ty : TypeId} {pos : String} {af : Array Edge} {gd : Option (Nat × Bool)} {kf : κ → Value} {vf : α → Value} {ml : List (κ × α)} {o : Option Nat} (hx : Ev n l g x (nextV kf vf ml o)) :
    RunsC P n l C g ⟨d, .extract x 0, ty, pos, af, gd⟩ (.bool o.isSome) := by
  cases o with
  | none => exact R.extract hx rfl
  | some j => exact R.extract hx rfl
section
variable {κ α : Type} [Inhabited κ] [Inhabited α]
variable {P : Program} {w0 : World} {n : Nat} {S N H : Hp} {l : Fr} {ops : Array Oper} {C : World → Prop} {K : Act → World → Prop} {r : List (Bool × Nat)} {i : Nat}
theorem At.mapNextO {d : Nat} {ty : TypeId} {pos : String} {af : Array Edge} {gd : Option (Nat × Bool)} {x : Operand} {kf : κ → Value} {vf : α → Value} {b q : Nat} {ml : List (κ × α)} {seen : List Nat} {N1 : Option Nat → Hp}
    (ho : ops[i]? = some ⟨some d, .next x false, ty, pos, af, gd⟩) (hdn : Nat.blt d n = true) (hg : wantG ops l ⟨some d, .next x false, ty, pos, af, gd⟩ = some true) (hx : Ev n l true x (.pointer (some ⟨q, 0, none⟩))) (hm : mapE kf vf b ml ∈ S ++ (N ++ H)) (hu : ∀ o : Option Nat, UpL N (itE q b ml seen) (itE q b ml (seen ++ o.toList)) (N1 o))
    (h : ∀ o, NextO ml seen o → Cl w0 S (N1 o) H C ∧ At w0 n S ((d, true, nextV kf vf ml o) :: l) (N1 o) H (wpSch P ops C K r)) : At w0 n S l N H (wpSch P ops C K ((false, i) :: r)) := by
  have e : N1 none = N := by
    obtain ⟨a, c, h1, h2⟩ := (hu none).form
    rw [h1, h2]; simp
  refine At.mapNext (kf := kf) (vf := vf) (ml := ml) (seen := seen) (N1 := fun j => N1 (some j)) ho hdn hg hx hm (fun j => hu (some j)) (fun hall => ?_) (fun j hj hjn => ?_)
  · have := h none ⟨fun _ => hall, fun j hj => by cases hj⟩
    rw [e] at this
    exact this
  · exact h (some j) ⟨(fun hn => by cases hn), (fun j' hj' => by cases hj'; exact ⟨hj, hjn⟩)⟩
end
theorem nodup_bound : ∀ (n : Nat) (l : List Nat), l.Nodup → (∀ i ∈ l, i < n) → l.length ≤ n
  | 0, l, _, h => by
    cases l with
    | nil => exact Nat.le_refl _
    | cons x l => exact absurd (h x (by simp)) (Nat.not_lt_zero _)
  | n + 1, l, hn, h => by
    have h1 : (l.erase n).Nodup := hn.erase n
    have h2 : ∀ i ∈ l.erase n, i < n := fun i hi => by
      have h3 := h i (List.mem_of_mem_erase hi)
      have h4 : i ≠ n := fun e => by subst e; exact (List.Nodup.not_mem_erase hn) hi
      omega
    have h5 := nodup_bound n _ h1 h2
    have h6 : l.length ≤ (l.erase n).length + 1 := by rw [List.length_erase]; split <;> omega
    omega
end Go.Proofs.Ytimclnhklaldfaa
