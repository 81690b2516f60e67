/- Part of the proof: lemmas for what the last file states; no condition. -/
import Derived.Test.YtbolanigdkgbdaaGreatZF2
import Derived.Maps.RangeRun
import Derived.WideLaws
import Derived.RangeFuncNested
import Derived.RangeFuncBox
import Derived.RangeFuncLeaves
import Derived.Test.YtbolanigdkgbdaaGreatProg
set_option linter.unusedSectionVars false
namespace Go.Proofs.YtbolanigdkgbdaaGreat
open Go Go.RowKit
set_option linter.unusedSectionVars false
variable [Df]
open Go.ChangeMaps (setBlock)
set_option linter.unusedVariables false
section
variable {κ α : Type} [DecidableEq κ]
variable {P : Program} {n : Nat} {l : Fr} {C : World → Prop}
theorem R.lookup2 {g : Bool} {d : Option Tmp} {T kt et ty : TypeId} {pos : String} {af : Array Edge} {gd : Option (Nat × Bool)} {m x : Operand} {kf : κ → Value} {vf : α → Value} {b : Nat} {ml : List (κ × α)} {k : κ} {z : Value} (hT : P.underlying T = some (.map kt et)) (hk : KeyOk P kt kf) (hz : (P.info? et).bind (·.zero) = some z)
    (hm : Ev n l g m (.map (some b))) (hx : Ev n l g x (kf k)) (hE : ∀ w, C w → (mapE kf vf b ml).holds w) : RunsC P n l C g ⟨d, .lookup T m x true, ty, pos, af, gd⟩ (.tuple #[agetV vf z ml k, .bool (aget ml k).isSome]) := fun hg a w ha hw => by
  have hb : w.heap[b]? = some (.map (mEs kf vf 0 ml).toArray ml.length) := hE w hw
  have hf := hk.find _ vf k ml w
  have hzv : (zeroValue et).run P w = .ok z w := by
    cases hi : P.info? et with
    | none => rw [hi] at hz; cases hz
    | some inf => rw [hi] at hz; simp at hz; simp [zeroValue, typeInfo, hi, hz]
  unfold agetV aget
  cases hi : aidx ml k 0 with
  | none =>
    rw [hi] at hf
    simp only [Option.map_none] at hf
    simp [execOp, hm.eq hg ha, hx.eq hg ha, Instr.lookup, run_underlying hT, MapKept.run_getObj_map hb, hk.chk, hf, hzv]
  | some jv =>
    rw [hi] at hf
    simp only [Option.map_some] at hf
    simp [execOp, hm.eq hg ha, hx.eq hg ha, Instr.lookup, run_underlying hT, MapKept.run_getObj_map hb, hk.chk, hf]
theorem R.eqlNilP {g : Bool} {d : Option Tmp} {x : Operand} {T U ty : TypeId} {pos : String} {af : Array Edge} {gd : Option (Nat × Bool)} {p : Option Addr} (hT : P.underlying T = some (.pointer (P.pointee T))) (hx : Ev n l g x (.pointer p)) :
    RunsC P n l C g ⟨d, .binOp .eql T x (.const (.pointer none)) U, ty, pos, af, gd⟩ (.bool p.isNone) := fun hg a w ha _ => by
  have e : a.eval (.const (.pointer none)) = .pointer none := rfl
  have h1 : (eqGuard .eql T x (.const (.pointer none)) (.pointer p) (.pointer none)) = pure () := rfl
  have h2 := run_eql_pointer_nil (P := P) w T p hT
  simp [execOp, hx.eq hg ha, e, h1, h2]
theorem R.neqNilI {g : Bool} {d : Option Tmp} {x : Operand} {T U ty : TypeId} {pos : String} {af : Array Edge} {gd : Option (Nat × Bool)} (hT : P.underlying T = some (.interface (P.methodsAt T))) (hx : Ev n l g x .nilIface) :
    RunsC P n l C g ⟨d, .binOp .neq T x (.const .nilIface) U, ty, pos, af, gd⟩ (.bool false) := fun hg a w ha _ => by
  have e : a.eval (.const .nilIface) = .nilIface := rfl
  have h1 : (eqGuard .neq T x (.const .nilIface) .nilIface .nilIface).run P w = .ok () w := by
    simp only [eqGuard]
    cases x <;> simp
  have h2 : (binOp .neq T .nilIface .nilIface).run P w = .ok (.bool false) w := by
    show (do pure (Value.bool (!(← Op.equal T .nilIface .nilIface))) : Sem Value).run P w = _
    simp [run_equal_nil_nil w T hT]
  simp [execOp, hx.eq hg ha, e, h1, h2]
theorem R.indexAgg {g : Bool} {d : Option Tmp} {x y : Operand} {T E len m ty : TypeId} {pos : String} {af : Array Edge} {gd : Option (Nat × Bool)} {k : IntKind} {j : Int} {cs : Array Value} {v : Value} (hT : P.underlying T = some (.array len E)) (hs : (P.info? E).map (·.size) = some m) (hx : Ev n l g x (.agg cs)) (hy : Ev n l g y (.int k j)) (hj : 0 ≤ j ∧ j < len)
    (hv : ∀ w, (part E cs (j.toNat * m)).run P w = .ok v w) : RunsC P n l C g ⟨d, .index T x y, ty, pos, af, gd⟩ v := fun hg a w ha _ => by
  simp [execOp, hx.eq hg ha, hy.eq hg ha, Instr.index, run_underlying hT, asIntOf, run_sizeOf hs, hj.1, hj.2, hv]
end
theorem run_part_arr {P : Program} {E len e m : Nat} {cs : Array Value} {off : Nat} {w : World} (hT : P.underlying E = some (.array len e)) (hs : (P.info? E).map (·.size) = some m) : (part E cs off).run P w = .ok (.agg (cs.extract off (off + m))) w := by
  simp [part, isAgg, run_underlying hT, run_sizeOf hs]
abbrev itE {κ α : Type} (r b : Nat) (ml : List (κ × α)) (seen : List Nat) : Ent := .blk r (.mapIter (some b) ml.length seen.toArray ml.length)
section
variable {κ α : Type}
variable {P : Program} {w0 : World} {n : Nat} {S N H : Hp} {l : Fr} {ops : Array Oper} {C : World → Prop} {K : Act → World → Prop} {r : List (Bool × Nat)} {i : Nat}
theorem mEs_born' (kf : κ → Value) (vf : α → Value) : ∀ (l : List (κ × α)) (b : Nat), (mEs kf vf b l).map (·.born) = List.range' b l.length
  | [], _ => rfl
  | x :: r, b => by simp only [mEs, List.map_cons, List.length_cons, List.range'_succ, mEs_born' kf vf r (b + 1)]
theorem mEs_lt' {kf : κ → Value} {vf : α → Value} {l : List (κ × α)} : ∀ x ∈ (mEs kf vf 0 l).toArray.toList, x.born < l.length := fun x hx => by
  have : x.born ∈ (mEs kf vf 0 l).map (·.born) := List.mem_map.2 ⟨x, by simpa using hx, rfl⟩
  rw [mEs_born'] at this
  have := List.mem_range'_1.1 this
  omega
theorem mEs_nodup {kf : κ → Value} {vf : α → Value} {l : List (κ × α)} : ((mEs kf vf 0 l).toArray.toList.map (·.born)).Nodup := by
  rw [mEs_born']
  exact List.nodup_range'
theorem At.rangeMap {d : Nat} {T kt et ty : TypeId} {pos : String} {af : Array Edge} {gd : Option (Nat × Bool)} {x : Operand} {kf : κ → Value} {vf : α → Value} {b : Nat} {ml : List (κ × α)}
    (ho : ops[i]? = some ⟨some d, .range T x, ty, pos, af, gd⟩) (hdn : Nat.blt d n = true) (hg : wantG ops l ⟨some d, .range T x, ty, pos, af, gd⟩ = some true) (hT : P.underlying T = some (.map kt et)) (hx : Ev n l true x (.map (some b))) (hm : mapE kf vf b ml ∈ S ++ (N ++ H))
    (h : ∀ q, w0.heap.size ≤ q → Cl w0 S (itE q b ml [] :: N) H C ∧ At w0 n S ((d, true, .pointer (some ⟨q, 0, none⟩)) :: l) (itE q b ml [] :: N) H (wpSch P ops C K r)) : At w0 n S l N H (wpSch P ops C K ((false, i) :: r)) :=
  At.eW (d := some d) ho hg fun a w ha hw => by
    have hb : w.heap[b]? = some (.map (mEs kf vf 0 ml).toArray ml.length) := Holds.st hm w hw
    unfold Oper.wp
    have hrun : (execOp a.eval ⟨some d, .range T x, ty, pos, af, gd⟩).run P w = .ok (.value (.pointer (some ⟨w.heap.size, 0, none⟩))) (w.alloc (.mapIter (some b) ml.length #[] ml.length)) := by
      simp [execOp, hx rfl a ha, run_range_map w T kt et b _ _ hT hb]
    rw [hrun, Oper.upon_value]
    have := hw.alloc (.mapIter (some b) ml.length #[] ml.length)
    obtain ⟨h1, h2⟩ := h w.heap.size hw.size
    exact ⟨h1 _ this, h2 _ _ (ha.put (by simpa using hdn) rfl) this⟩
theorem At.mapNext [Inhabited κ] [Inhabited α] {d : Nat} {ty : TypeId} {pos : String} {af : Array Edge} {gd : Option (Nat × Bool)} {x : Operand} {kf : κ → Value} {vf : α → Value} {b q : Nat} {ml : List (κ × α)} {seen : List Nat} {N1 : Nat → Hp}
    (ho : ops[i]? = some ⟨some d, .next x false, ty, pos, af, gd⟩) (hdn : Nat.blt d n = true) (hg : wantG ops l ⟨some d, .next x false, ty, pos, af, gd⟩ = some true) (hx : Ev n l true x (.pointer (some ⟨q, 0, none⟩))) (hm : mapE kf vf b ml ∈ S ++ (N ++ H)) (hu : ∀ j, UpL N (itE q b ml seen) (itE q b ml (seen ++ [j])) (N1 j))
    (h0 : (∀ j, j < ml.length → j ∈ seen) → Cl w0 S N H C ∧ At w0 n S ((d, true, .tuple #[.bool false]) :: l) N H (wpSch P ops C K r))
    (h1 : ∀ j, j < ml.length → j ∉ seen → Cl w0 S (N1 j) H C ∧ At w0 n S ((d, true, .tuple #[.bool true, kf (gE ml (j : Int)).1, vf (gE ml (j : Int)).2]) :: l) (N1 j) H (wpSch P ops C K r)) : At w0 n S l N H (wpSch P ops C K ((false, i) :: r)) :=
  At.eW (d := some d) ho hg fun a w ha hw => by
    have hb : w.heap[b]? = some (.map (mEs kf vf 0 ml).toArray ml.length) := Holds.st hm w hw
    have hq : w.heap[q]? = some (.mapIter (some b) ml.length seen.toArray ml.length) := hw.has _ (List.mem_append_left _ (hu 0).mem)
    unfold Oper.wp
    rcases run_next_at (P := P) w ty q b ml.length ml.length seen.toArray _ _ hq hb mEs_lt' (Nat.le_refl _) with ⟨h2, hrun⟩ | ⟨e, he, w1, hw1, hrun⟩
    · have hrun' : (execOp a.eval ⟨some d, .next x false, ty, pos, af, gd⟩).run P w = .ok (.value (.tuple #[.bool false])) w := by
        simp [execOp, hx rfl a ha, hrun]
      rw [hrun', Oper.upon_value]
      have hall : ∀ j, j < ml.length → j ∈ seen := fun j hj => by
        have h3 : (mEs kf vf 0 ml)[j]? = some { key := kf (ml[j]).1, val := vf (ml[j]).2, born := 0 + j } := by rw [mEs_get, List.getElem?_eq_getElem hj]; rfl
        have h4 := all_seen _ _ h2 _ (show _ ∈ (mEs kf vf 0 ml).toArray.toList from by simpa using List.mem_of_getElem? h3)
        simpa using h4
      obtain ⟨h3, h4⟩ := h0 hall
      exact ⟨h3 _ hw, h4 _ _ (ha.put (by simpa using hdn) rfl) hw⟩
    · obtain ⟨he1, he2⟩ := mem_left he
      obtain ⟨j, hj, hje⟩ := List.mem_iff_getElem.1 (show e ∈ mEs kf vf 0 ml by simpa using he1)
      have hget : (mEs kf vf 0 ml)[j]? = some e := by rw [List.getElem?_eq_getElem hj, hje]
      rw [mEs_get] at hget
      have hjl : j < ml.length := by
        rcases Nat.lt_or_ge j ml.length with h | h
        · exact h
        · rw [List.getElem?_eq_none h] at hget; cases hget
      rw [List.getElem?_eq_getElem hjl] at hget
      simp only [Option.map_some, Option.some.injEq] at hget
      subst hget
      have hns : j ∉ seen := fun hm2 => by
        simp at he2
        exact he2 hm2
      have hg2 : gE ml (j : Int) = ml[j] := by simp [gE, hjl]
      have hrun' : (execOp a.eval ⟨some d, .next x false, ty, pos, af, gd⟩).run P w = .ok (.value (.tuple #[.bool true, kf (ml[j]).1, vf (ml[j]).2])) (setBlock w1 q (.mapIter (some b) ml.length (seen.toArray.push (0 + j)) ml.length)) := by
        simp [execOp, hx rfl a ha, hrun]
      rw [hrun', Oper.upon_value, ← hg2]
      have hw1' : St w0 w1 S N H := by
        rcases hw1 with rfl | rfl
        · exact hw
        · exact hw.drew
      have hq1 : w1.heap[q]? = some (.mapIter (some b) ml.length seen.toArray ml.length) := by rcases hw1 with rfl | rfl <;> exact hq
      have hlt : q < w1.heap.size := (Array.getElem?_eq_some_iff.1 hq1).1
      have := hw1'.upd (w' := setBlock w1 q (.mapIter (some b) ml.length (seen.toArray.push (0 + j)) ml.length)) (.n (hu j)) rfl (show (itE q b ml (seen ++ [j])).holds _ by simp [Ent.holds, setBlock, hlt]) rfl rfl rfl (by simp [setBlock]) fun k _ hk => by
        have : q ≠ k := fun e => hk (by rw [e]; rfl)
        simp [setBlock, this]
      obtain ⟨h3, h4⟩ := h1 j hjl hns
      exact ⟨h3 _ this, h4 _ _ (ha.put (by simpa using hdn) rfl) this⟩
theorem R.entry {g : Bool} {d : Option Tmp} {ty : TypeId} {pos : String} {af : Array Edge} {gd : Option (Nat × Bool)} {x : Operand} {kf : κ → Value} {vf : α → Value} {b q j : Nat} [Inhabited κ] [Inhabited α] {ml : List (κ × α)} {seen : List Nat} (hx : Ev n l g x (.pointer (some ⟨q, 0, none⟩)))
    (hE : ∀ w, C w → (mapE kf vf b ml).holds w) (hI : ∀ w, C w → (itE q b ml (seen ++ [j])).holds w) (hj : j < ml.length) : RunsC P n l C g ⟨d, .entry x, ty, pos, af, gd⟩ (.tuple #[kf (gE ml (j : Int)).1, vf (gE ml (j : Int)).2]) := fun hg a w ha hw => by
  have hb : w.heap[b]? = some (.map (mEs kf vf 0 ml).toArray ml.length) := hE w hw
  have hq : w.heap[q]? = some (.mapIter (some b) ml.length (seen.toArray.push j) ml.length) := by
    have := hI w hw
    simpa [Ent.holds] using this
  have h3 : (mEs kf vf 0 ml)[j]? = some { key := kf (ml[j]).1, val := vf (ml[j]).2, born := 0 + j } := by rw [mEs_get, List.getElem?_eq_getElem hj]; rfl
  have hr := run_entry_at (P := P) w q b ml.length seen.toArray (mEs kf vf 0 ml).toArray ml.length { key := kf (ml[j]).1, val := vf (ml[j]).2, born := 0 + j } (by simpa using hq) hb (by simpa using List.mem_of_getElem? h3) mEs_nodup
  have hg2 : gE ml (j : Int) = ml[j] := by simp [gE, hj]
  rw [hg2]
  simp [execOp, hx.eq hg ha, hr]
end
end Go.Proofs.YtbolanigdkgbdaaGreat
namespace Go.Proofs.YtbolanigdkgbdaaGreat
open Go Go.RowKit
set_option linter.unusedSectionVars false
variable [Df]
set_option linter.unusedVariables false
section
variable {P : Program} {w0 : World} {n : Nat} {S N H : Hp} {l : Fr} {ops : Array Oper} {X : Act → World → Prop} {C : World → Prop}
abbrev NodeR := Nat × List (Bool × Nat) × Nat × Array Bool
def nodeOk (ops : Array Oper) (m : Nat) (listed : Array Bool) (rs : List NodeR) : Bool :=
  (Region.ready .any ops listed == rs.map (·.1)) && (!rs.isEmpty) && rs.all fun r => (schTo .any ops r.2.1 (listed.setIfInBounds r.1 true) == some r.2.2.2) && (r.2.2.1 + (r.2.1.length + 1) == m)
def AllN (f : NodeR → Prop) : List NodeR → Prop
  | [] => True
  | [r] => f r
  | r :: rs => f r ∧ AllN f rs
theorem AllN.all {f : NodeR → Prop} : ∀ {rs : List NodeR}, AllN f rs → ∀ r ∈ rs, f r
  | [], _, r, h => absurd h (by simp)
  | [x], h, r, hr => by simp at hr; subst hr; exact h
  | x :: y :: rs, h, r, hr => by
    rcases List.mem_cons.1 hr with rfl | hr
    · exact h.1
    · exact AllN.all h.2 r hr
theorem At.dag {id : Nat} {Q : Exit → Act → World → Prop} (pre : List (Bool × Nat)) (m0 : Nat) (listed0 : Array Bool) (L : Hp) (hL : ∀ e ∈ L, e ∈ S ++ (N ++ H)) (hm : P.follows .mixedOrders = true)
    (hk : (Region.noSelect ops && (m0 + pre.length == ops.size) && (schTo .any ops pre (Array.replicate ops.size false) == some listed0)) = true)
    (h : ∀ G : Nat → Array Bool → Act → World → Prop,
      (∀ (l : Fr) (N : Hp) (m : Nat) (listed : Array Bool) (rs : List NodeR), nodeOk ops m listed rs = true → Cl w0 S N H (Kept L) →
        AllN (fun r => At w0 n S l N H (wpSch P ops (Kept L) (G r.2.2.1 r.2.2.2) ((false, r.1) :: r.2.1))) rs → At w0 n S l N H (G m listed)) →
      (∀ (l : Fr) (N : Hp) (listed : Array Bool), (Region.ready .any ops listed).isEmpty = true → At w0 n S l N H (Q .normal) → At w0 n S l N H (G 0 listed)) →
      At w0 n S l N H (wpSch P ops (Kept L) (G m0 listed0) pre)) : At w0 n S l N H ((Code.region id ops true).wp P Q) := fun a w ha hw => by
  simp only [Bool.and_eq_true, beq_iff_eq] at hk
  obtain ⟨⟨h1, h2⟩, h3⟩ := hk
  refine Code.wp_mono (noQ_imp fun _ _ h => h) (wp_region_held (S := Kept L) hm ?_)
  have hC : Kept L w.drew := fun e he => Cl.kept hL _ hw.drew e he
  have hG := h (fun m listed a w => Kept L w → wpAnyH P .any ops (NoQ (Q .normal)) (Kept L) m listed a w) ?_ ?_
  · have := wpSch_to (P := P) (md := .any) h1 m0 listed0 (fun a w hC hh => hh hC) pre _ a w.drew hC h3 (hG a w.drew ha hw.drew)
    rwa [h2] at this
  · intro l N m listed rs hok hCl hall a w ha hw hCw
    simp only [nodeOk, Bool.and_eq_true, beq_iff_eq, List.all_eq_true] at hok
    obtain ⟨⟨k0, k1⟩, k2⟩ := hok
    obtain ⟨m', rfl⟩ : ∃ m', m = m' + 1 := by
      cases rs with
      | nil => simp at k1
      | cons r rs => have := (k2 r (by simp)).2; exact ⟨m - 1, by omega⟩
    refine wpAnyH_all k0 (by cases rs <;> simp_all) fun q hq => ?_
    obtain ⟨r, hr, rfl⟩ := List.mem_map.1 hq
    obtain ⟨k3, k4⟩ := k2 r hr
    have h5 := hall.all r hr a w ha hw
    refine wpOp_mono (fun a' w' h' => ⟨h'.1, ?_⟩) (wpOp_QF h5)
    have := wpSch_to (P := P) (md := .any) h1 r.2.2.1 r.2.2.2 (fun a w hC hh => hh hC) r.2.1 _ a' w' h'.1 k3 h'.2
    rwa [show r.2.2.1 + r.2.1.length = m' from by omega] at this
  · intro l N listed hr hX a w ha hw _
    show wpAnyH P .any ops (NoQ (Q .normal)) (Kept L) 0 listed a w
    exact ⟨by simpa using hr, hX a w ha hw⟩
end
section
variable {κ α : Type} [DecidableEq κ]
variable {P : Program} {w0 : World} {n : Nat} {S N H : Hp} {l : Fr} {ops : Array Oper} {C : World → Prop} {K : Act → World → Prop} {r : List (Bool × Nat)} {i : Nat}
theorem At.mapIns {T kt et ty : TypeId} {pos : String} {af : Array Edge} {gd : Option (Nat × Bool)} {m x y : Operand} {kf : κ → Value} {vf : α → Value} {b : Nat} {ml : List (κ × α)} {k : κ} {v : α} {N' H' : Hp}
    (ho : ops[i]? = some ⟨none, .insert T m x y, ty, pos, af, gd⟩) (hg : wantG ops l ⟨none, .insert T m x y, ty, pos, af, gd⟩ = some true) (hT : P.underlying T = some (.map kt et)) (hk : KeyOk P kt kf)
    (hm : Ev n l true m (.map (some b))) (hx : Ev n l true x (kf k)) (hy : Ev n l true y (vf v)) (hu : Up N H (mapE kf vf b ml) (mapE kf vf b (aput ml k v)) N' H')
    (h : Cl w0 S N' H' C ∧ At w0 n S l N' H' (wpSch P ops C K r)) : At w0 n S l N H (wpSch P ops C K ((false, i) :: r)) :=
  At.eW (d := none) ho hg fun a w ha hw => by
    have hmem : mapE kf vf b ml ∈ N ++ H := by cases hu with | n hl => exact List.mem_append_left _ hl.mem | h hl => exact List.mem_append_right _ hl.mem
    have hb : w.heap[b]? = some (.map (mEs kf vf 0 ml).toArray ml.length) := hw.has _ hmem
    have hlt : b < w.heap.size := (Array.getElem?_eq_some_iff.1 hb).1
    have hrun : (execOp a.eval ⟨none, .insert T m x y, ty, pos, af, gd⟩).run P w = .ok .skip { w with heap := w.heap.setIfInBounds b (.map (mEs kf vf 0 (aput ml k v)).toArray (aput ml k v).length) } := by
      have hf := hk.find _ vf k ml w
      have hupd : (Instr.mapUpdate T (.map (some b)) (kf k) (vf v)).run P w = .ok () { w with heap := w.heap.setIfInBounds b (.map (mEs kf vf 0 (aput ml k v)).toArray (aput ml k v).length) } := by
        unfold aput
        cases hi : aidx ml k 0 with
        | none =>
          rw [hi] at hf
          simp only [Option.map_none] at hf
          have e1 : (mEs kf vf 0 (ml ++ [(k, v)])).toArray = (mEs kf vf 0 ml).toArray.push { key := kf k, val := vf v, born := ml.length } := by
            rw [mEs_append]; simp
          simp [Instr.mapUpdate, run_underlying hT, MapKept.run_getObj_map hb, hk.chk, hf, MapKept.run_setObj_map _ hb, Result.andThen, e1]
        | some jv =>
          obtain ⟨j, u⟩ := jv
          rw [hi] at hf
          simp only [Option.map_some] at hf
          obtain ⟨h1, h2⟩ := aidx_spec ml k 0 j u hi
          simp only [Nat.sub_zero] at h2
          have e1 : (mEs kf vf 0 ml)[j]? = some { key := kf k, val := vf u, born := 0 + j } := by rw [mEs_get, h2]; rfl
          have e2 := mEs_modify kf vf ml j k v
          simp at e2
          have e3 : (Instr.keyThatStays (kf k) (kf k)).run P w = .ok (kf k) w := by simp [Instr.keyThatStays, hk.bits]
          simp [Instr.mapUpdate, run_underlying hT, MapKept.run_getObj_map hb, hk.chk, hf, MapKept.run_setObj_map _ hb, Result.andThen, e1, e3, e2]
      simp [execOp, hm rfl a ha, hx rfl a ha, hy rfl a ha, hupd]
    unfold Oper.wp
    rw [hrun, Oper.upon_skip]
    have := hw.upd (w' := { w with heap := w.heap.setIfInBounds b (.map (mEs kf vf 0 (aput ml k v)).toArray (aput ml k v).length) }) hu rfl (show (Ent.blk b (.map (mEs kf vf 0 (aput ml k v)).toArray (aput ml k v).length)).holds _ from by simp [Ent.holds, hlt]) rfl rfl rfl (by simp) fun q _ hq => by
      have : b ≠ q := fun e => hq (by rw [e]; rfl)
      simp [this]
    exact ⟨h.1 _ this, h.2 _ _ ha this⟩
end
section
variable {κ α : Type} [DecidableEq κ]
theorem aidx_none : ∀ {l : List (κ × α)} {k : κ} {i : Nat}, (∀ e ∈ l, e.1 ≠ k) → aidx l k i = none
  | [], _, _, _ => rfl
  | x :: r, k, i, h => by
    simp only [aidx]
    rw [if_neg (fun e => h x (by simp) e.symm)]
    exact aidx_none fun e he => h e (by simp [he])
theorem aput_new {l : List (κ × α)} {k : κ} {v : α} (h : ∀ e ∈ l, e.1 ≠ k) : aput l k v = l ++ [(k, v)] := by
  unfold aput
  rw [aidx_none h]
theorem perm_put {l m : List (κ × α)} {k : κ} {v : α} (h : l.Perm m) (hk : ∀ e ∈ m, e.1 ≠ k) : (aput l k v).Perm (m ++ [(k, v)]) := by
  rw [aput_new fun e he => hk e (h.mem_iff.1 he)]
  exact h.append_right _
theorem perm_xy {β : Type} {x y : β} : ([x] ++ [y]).Perm [y, x] := List.Perm.swap _ _ _
theorem perm_xzy {β : Type} {x y z : β} : ([x, z] ++ [y]).Perm [x, y, z] := (List.Perm.swap _ _ _).cons _
theorem perm_yzx {β : Type} {x y z : β} : ([y, z] ++ [x]).Perm [x, y, z] := List.perm_append_comm (l₁ := [y, z]) (l₂ := [x])
end
def nextV {κ α : Type} [Inhabited κ] [Inhabited α] (kf : κ → Value) (vf : α → Value) (ml : List (κ × α)) : Option Nat → Value
  | none => .tuple #[.bool false]
  | some j => .tuple #[.bool true, kf (gE ml (j : Int)).1, vf (gE ml (j : Int)).2]
def NextO {κ α : Type} (ml : List (κ × α)) (seen : List Nat) (o : Option Nat) : Prop := (o = none → ∀ j, j < ml.length → j ∈ seen) ∧ ∀ j, o = some j → j < ml.length ∧ j ∉ seen
theorem R.extractNext {κ α : Type} [Inhabited κ] [Inhabited α] {P : Program} {n : Nat} {l : Fr} {C : World → Prop} {g : Bool} {d : Option Tmp} {x : Operand} {ty : TypeId} {pos : String} {af : Array Edge} {gd : Option (Nat × Bool)} {kf : κ → Value} {vf : α → Value} {ml : List (κ × α)} {o : Option Nat} (hx : Ev n l g x (nextV kf vf ml o)) :
    RunsC P n l C g ⟨d, .extract x 0, ty, pos, af, gd⟩ (.bool o.isSome) := by
  cases o with
  | none => exact R.extract hx rfl
  | some j => exact R.extract hx rfl
section
variable {κ α : Type} [Inhabited κ] [Inhabited α]
variable {P : Program} {w0 : World} {n : Nat} {S N H : Hp} {l : Fr} {ops : Array Oper} {C : World → Prop} {K : Act → World → Prop} {r : List (Bool × Nat)} {i : Nat}
theorem At.mapNextO {d : Nat} {ty : TypeId} {pos : String} {af : Array Edge} {gd : Option (Nat × Bool)} {x : Operand} {kf : κ → Value} {vf : α → Value} {b q : Nat} {ml : List (κ × α)} {seen : List Nat} {N1 : Option Nat → Hp}
    (ho : ops[i]? = some ⟨some d, .next x false, ty, pos, af, gd⟩) (hdn : Nat.blt d n = true) (hg : wantG ops l ⟨some d, .next x false, ty, pos, af, gd⟩ = some true) (hx : Ev n l true x (.pointer (some ⟨q, 0, none⟩))) (hm : mapE kf vf b ml ∈ S ++ (N ++ H)) (hu : ∀ o : Option Nat, UpL N (itE q b ml seen) (itE q b ml (seen ++ o.toList)) (N1 o))
    (h : ∀ o, NextO ml seen o → Cl w0 S (N1 o) H C ∧ At w0 n S ((d, true, nextV kf vf ml o) :: l) (N1 o) H (wpSch P ops C K r)) : At w0 n S l N H (wpSch P ops C K ((false, i) :: r)) := by
  have e : N1 none = N := by
    obtain ⟨a, c, h1, h2⟩ := (hu none).form
    rw [h1, h2]; simp
  refine At.mapNext (kf := kf) (vf := vf) (ml := ml) (seen := seen) (N1 := fun j => N1 (some j)) ho hdn hg hx hm (fun j => hu (some j)) (fun hall => ?_) (fun j hj hjn => ?_)
  · have := h none ⟨fun _ => hall, fun j hj => by cases hj⟩
    rw [e] at this
    exact this
  · exact h (some j) ⟨(fun hn => by cases hn), (fun j' hj' => by cases hj'; exact ⟨hj, hjn⟩)⟩
end
theorem nodup_bound : ∀ (n : Nat) (l : List Nat), l.Nodup → (∀ i ∈ l, i < n) → l.length ≤ n
  | 0, l, _, h => by
    cases l with
    | nil => exact Nat.le_refl _
    | cons x l => exact absurd (h x (by simp)) (Nat.not_lt_zero _)
  | n + 1, l, hn, h => by
    have h1 : (l.erase n).Nodup := hn.erase n
    have h2 : ∀ i ∈ l.erase n, i < n := fun i hi => by
      have h3 := h i (List.mem_of_mem_erase hi)
      have h4 : i ≠ n := fun e => by subst e; exact (List.Nodup.not_mem_erase hn) hi
      omega
    have h5 := nodup_bound n _ h1 h2
    have h6 : l.length ≤ (l.erase n).length + 1 := by rw [List.length_erase]; split <;> omega
    omega
end Go.Proofs.YtbolanigdkgbdaaGreat
namespace Go.Proofs.YtbolanigdkgbdaaGreat
open Go Go.RowKit
set_option linter.unusedSectionVars false
variable [Df]
set_option linter.unusedVariables false
section
variable {P : Program} {n : Nat} {l : Fr} {C : World → Prop} {g : Bool} {d : Option Tmp} {x y : Operand} {T U : TypeId} {ty : TypeId} {pos : String} {af : Array Edge} {gd : Option (Nat × Bool)} {k k' : IntKind} {a s m : Int}
theorem R.shrV (hx : Ev n l g x (.int k a)) (hy : Ev n l g y (.int k' s)) (hs : 0 ≤ s ∧ s.toNat ≤ k.bits) (hm : (2 : Int) ^ s.toNat = m) : RunsC P n l C g ⟨d, .binOp .shr T x y U, ty, pos, af, gd⟩ (.int k (a / m)) := fun hg A w ha _ => by
  have h0 : ¬ s < 0 := by omega
  have h1 : min s.toNat k.bits = s.toNat := by omega
  have h2 : a.fdiv m = a / m := Int.fdiv_eq_ediv_of_nonneg a (by rw [← hm]; exact Int.pow_nonneg (by decide))
  simp [execOp, hx.eq hg ha, hy.eq hg ha, eqGuard, binOp, Op.shift, h0, h1, hm, h2]
theorem R.shlV (hx : Ev n l g x (.int k a)) (hy : Ev n l g y (.int k' s)) (hs : 0 ≤ s ∧ s.toNat ≤ k.bits) (hm : (2 : Int) ^ s.toNat = m) (hb : g = true → k.wrap (a * m) = a * m) : RunsC P n l C g ⟨d, .binOp .shl T x y U, ty, pos, af, gd⟩ (.int k (a * m)) := fun hg A w ha _ => by
  have h0 : ¬ s < 0 := by omega
  have h1 : min s.toNat k.bits = s.toNat := by omega
  simp [execOp, hx.eq hg ha, hy.eq hg ha, eqGuard, binOp, Op.shift, h0, h1, hm, hb hg]
theorem nat_mod_pow (a : Int) {j : Nat} (hj : j ≤ 64) : (((a % (2 ^ 64 : Int)).toNat % 2 ^ j : Nat) : Int) = a % (2 ^ j : Int) := by
  have h64 : 0 ≤ a % (2 ^ 64 : Int) := Int.emod_nonneg _ (by decide)
  rw [Int.natCast_emod, Int.toNat_of_nonneg h64]
  have : ((2 ^ j : Nat) : Int) = 2 ^ j := by simp
  rw [this]
  exact Int.emod_emod_of_dvd a (by
    have : (2 : Int) ^ 64 = 2 ^ j * 2 ^ (64 - j) := by rw [← Int.pow_add]; congr 1; omega
    rw [this]; exact Int.dvd_mul_right _ _)
theorem R.andV {j : Nat} (hx : Ev n l g x (.int k a)) (hy : Ev n l g y (.int k s)) (hk : k.bits = 64) (hs : s + 1 = m) (hj : j ≤ 62) (hm : (2 : Int) ^ j = m) (hw : ∀ z : Int, 0 ≤ z ∧ z ≤ 9223372036854775807 → k.wrap z = z) : RunsC P n l C g ⟨d, .binOp .and T x y U, ty, pos, af, gd⟩ (.int k (a % m)) := fun hg A w ha _ => by
  simp only [execOp, hx.eq hg ha, hy.eq hg ha]
  have hp : (0 : Int) < 2 ^ j := Int.pow_pos (by decide)
  have hp62 : (2 : Int) ^ j ≤ 2 ^ 62 := by
    have := Nat.pow_le_pow_right (show 0 < 2 from by decide) hj
    have h2 : ((2 ^ j : Nat) : Int) ≤ ((2 ^ 62 : Nat) : Int) := Int.ofNat_le.2 this
    simpa using h2
  have e : s = ((2 ^ j - 1 : Nat) : Int) := by
    have : 1 ≤ 2 ^ j := Nat.one_le_two_pow
    rw [Int.natCast_sub this]; simp; omega
  have h3 : (2 : Nat) ^ j ≤ 2 ^ 62 := Nat.pow_le_pow_right (by decide) hj
  have h1 : (BitVec.ofInt k.bits a &&& BitVec.ofInt k.bits s).toNat = (a % (2 ^ 64 : Int)).toNat % 2 ^ j := by
    rw [BitVec.toNat_and, BitVec.toNat_ofInt, BitVec.toNat_ofInt, hk]
    have : (s % ((2 ^ 64 : Nat) : Int)).toNat = 2 ^ j - 1 := by
      rw [e, ← Int.natCast_emod, Int.toNat_natCast, Nat.mod_eq_of_lt]
      have : 0 < 2 ^ j := Nat.pow_pos (by decide)
      have : (2 : Nat) ^ 62 < 2 ^ 64 := by decide
      omega
    rw [this, Nat.and_two_pow_sub_one_eq_mod]
    simp
  have h2 := nat_mod_pow a (show j ≤ 64 by omega)
  have hr : 0 ≤ a % m ∧ a % m < m := ⟨Int.emod_nonneg _ (by omega), Int.emod_lt_of_pos _ (by omega)⟩
  have hm2 : (2 : Int) ^ 62 = 4611686018427387904 := by decide
  simp [eqGuard, binOp, Op.intBits]
  have h4 : (((BitVec.ofInt k.bits a &&& BitVec.ofInt k.bits s).toNat : Nat) : Int) = a % m := by rw [h1, h2, hm]
  simp at h4
  rw [h4]
  exact hw _ (by omega)
theorem R.orV {j : Nat} {b : Int} (hx : Ev n l g x (.int .i64 a)) (hy : Ev n l g y (.int .i64 b)) (hb : g = true → 0 ≤ a ∧ a % (2 : Int) ^ j = 0 ∧ 0 ≤ b ∧ b < 2 ^ j ∧ a + b ≤ 9223372036854775807) : RunsC P n l C g ⟨d, .binOp .or T x y U, ty, pos, af, gd⟩ (.int .i64 (a + b)) := fun hg A w ha _ => by
  obtain ⟨h0, h1, h2, h3, h4⟩ := hb hg
  simp only [execOp, hx.eq hg ha, hy.eq hg ha]
  obtain ⟨a', rfl⟩ := Int.eq_ofNat_of_zero_le h0
  obtain ⟨b', rfl⟩ := Int.eq_ofNat_of_zero_le h2
  have hb' : b' < 2 ^ j := by
    have : ((b' : Nat) : Int) < ((2 ^ j : Nat) : Int) := by simpa using h3
    exact Int.ofNat_lt.1 this
  have ha' : a' % 2 ^ j = 0 := by
    have : (((a' % 2 ^ j : Nat)) : Int) = 0 := by rw [Int.natCast_emod]; simpa using h1
    omega
  have hor : a' ||| b' = a' + b' := by
    obtain ⟨c, rfl⟩ := Nat.dvd_of_mod_eq_zero ha'
    exact (Nat.two_pow_add_eq_or_of_lt hb' c).symm
  have e : (BitVec.ofInt 64 (a' : Int) ||| BitVec.ofInt 64 (b' : Int)).toNat = a' + b' := by
    rw [BitVec.toNat_or, BitVec.toNat_ofInt, BitVec.toNat_ofInt]
    have q1 : (((a' : Nat) : Int) % ((2 ^ 64 : Nat) : Int)).toNat = a' := by
      rw [← Int.natCast_emod, Int.toNat_natCast]; exact Nat.mod_eq_of_lt (by omega)
    have q2 : (((b' : Nat) : Int) % ((2 ^ 64 : Nat) : Int)).toNat = b' := by
      rw [← Int.natCast_emod, Int.toNat_natCast]; exact Nat.mod_eq_of_lt (by omega)
    rw [q1, q2, hor]
  have e2 : (BitVec.ofInt IntKind.i64.bits (a' : Int) ||| BitVec.ofInt IntKind.i64.bits (b' : Int)).toNat = a' + b' := e
  have e3 : IntKind.i64.wrap ((((BitVec.ofInt IntKind.i64.bits (a' : Int) ||| BitVec.ofInt IntKind.i64.bits (b' : Int)).toNat : Nat) : Int)) = (a' : Int) + (b' : Int) := by
    rw [e2, show ((a' + b' : Nat) : Int) = (a' : Int) + (b' : Int) from by simp, IntWalk.i64_in _ ⟨by omega, by omega⟩]
  simp only [eqGuard, binOp, Op.intBits]
  show Sem.run P (do let v ← (do (pure () : Sem Unit); (pure (Value.int .i64 (IntKind.i64.wrap ((((BitVec.ofInt IntKind.i64.bits (a' : Int) ||| BitVec.ofInt IntKind.i64.bits (b' : Int)).toNat : Nat) : Int)))) : Sem Value)); pure (Next.value v)) w = _
  rw [e3]; rfl
end
end Go.Proofs.YtbolanigdkgbdaaGreat
namespace Go.Proofs.YtbolanigdkgbdaaGreat
open Go Go.RowKit
set_option linter.unusedVariables false
section
variable [Df]
theorem R.neqNilP {P : Program} {n : Nat} {l : Fr} {C : World → Prop} {g : Bool} {d : Option Tmp} {x : Operand} {T U ty : TypeId} {pos : String} {af : Array Edge} {gd : Option (Nat × Bool)} {p : Option Addr} (hT : P.underlying T = some (.pointer (P.pointee T))) (hx : Ev n l g x (.pointer p)) :
    RunsC P n l C g ⟨d, .binOp .neq T x (.const (.pointer none)) U, ty, pos, af, gd⟩ (.bool p.isSome) := fun hg a w ha _ => by
  have e : a.eval (.const (.pointer none)) = .pointer none := rfl
  have h1 : (eqGuard .neq T x (.const (.pointer none)) (.pointer p) (.pointer none)) = pure () := rfl
  have h2 := run_neq_pointer_nil (P := P) w T p hT
  simp [execOp, hx.eq hg ha, e, h1, h2]
end
end Go.Proofs.YtbolanigdkgbdaaGreat
namespace Go.Proofs.YtbolanigdkgbdaaGreat
open Go Go.RowKit
set_option linter.unusedVariables false
set_option linter.unusedSectionVars false
def PostX (K : List Nat) (w0 : World) (S : Hp) (R : Value → Hp → Prop) : Ending → World → Prop := fun e w' => ∃ v N', R v N' ∧ e = .returned v ∧ @St ⟨[], K⟩ w0 w' S N' []
def FnX (P : Program) (f : FuncId) (args : List Value) (S A : Hp) (R : Value → Hp → Prop) : Prop :=
  Callable P f ∧ ∀ w, @St ⟨[], keys A⟩ w w S A [] → Calls P f args.toArray w (PostX (keys A) w S R)
theorem St.ofOw {d1 d2 : Df} {w0 w : World} {S N H : Hp} (h : @St d1 w0 w S N H) (e : d1.ow = d2.ow) : @St d2 w0 w S N H :=
  StO.mk h.os h.tape h.output h.size h.has h.hasS h.nodup h.apart (fun x hx k hk => by rw [← e]; exact h.fresh x hx k hk) (fun b hb hn ho => h.old b hb hn (by rw [e]; exact ho))
theorem FnX.enter {P : Program} {f : FuncId} {fn : Func} {c : Code} {args : List Value} {S A : Hp} {R : Value → Hp → Prop} {n : Nat} {l0 : Fr} (hf : P.funcs[f]? = some fn) (hname : (fn.name == "runtime.NumGoroutine") = false)
    (hb : fn.body = some c) (hn : max fn.ntmps args.length = n) (hl : numbered 0 args = l0) (h : ∀ (w : World) (df : Df), df.ds = [] → df.ow = keys A → @At df w n S l0 A [] (c.wp P (bodyPost P fn (PostX (keys A) w S R)))) : FnX P f args S A R := by
  refine ⟨⟨fn, hf, hname, by simp [hb]⟩, fun w hw => calls_of_wp hf hb (h w ⟨[], keys A⟩ rfl rfl _ w ?_ hw)⟩
  subst hl hn
  refine @Fk.mk ⟨[], keys A⟩ _ _ _ (by simp; omega) rfl fun t g v ht => ?_
  rw [look_numbered] at ht
  simp only [Nat.zero_le, if_true, Nat.sub_zero, Option.map_eq_some_iff, Prod.mk.injEq] at ht
  obtain ⟨u, ht, rfl, rfl⟩ := ht
  have hlt : t < args.length := (List.getElem?_eq_some_iff.1 ht).1
  have hv : args[t] = u := by rw [List.getElem?_eq_getElem hlt] at ht; injection ht
  simp [Array.getElem?_append, hlt, hv]
inductive Pick : Hp → Hp → Hp → Prop
  | nil {l : Hp} : Pick l [] l
  | all {l : Hp} : Pick l l []
  | take {l A R : Hp} {a : Ent} : Pick l A R → Pick (a :: l) (a :: A) R
  | skip {l A R : Hp} {x : Ent} : Pick l A R → Pick (x :: l) A (x :: R)
  | app {a l A R : Hp} : Pick l A R → Pick (a ++ l) (a ++ A) R
  | pass {a l A R : Hp} : Pick l A R → Pick (a ++ l) A (a ++ R)
theorem Pick.perm {N A R : Hp} (h : Pick N A R) : N.Perm (A ++ R) := by
  induction h with
  | nil => exact .refl _
  | all => rw [List.append_nil]
  | take _ ih => exact ih.cons _
  | @skip _ _ _ x _ ih => exact (ih.cons x).trans List.perm_middle.symm
  | @app a _ _ _ _ ih => rw [List.append_assoc]; exact ih.append_left a
  | @pass a _ A R _ ih => exact (ih.append_left a).trans (by rw [← List.append_assoc, ← List.append_assoc]; exact List.perm_append_comm.append_right R)
section
variable [Df]
theorem St.callX {w0 w w' : World} {S S' N H A B R : Hp} (h : St w0 w S N H) (hp : N.Perm (A ++ R)) (h' : @St ⟨[], keys A⟩ w w' S' B []) : St w0 w' S (B ++ R) H := by
  have hold : ∀ k, k < w.heap.size → k ∉ keys A → w'.heap[k]? = w.heap[k]? := fun k hk1 hk2 => h'.old k hk1 (by simp [keys]) hk2
  have hlt := keys_lt h.has
  have hnd : (keys (A ++ (R ++ H))).Nodup := by
    have hp2 : (N ++ H).Perm (A ++ (R ++ H)) := by rw [← List.append_assoc]; exact hp.append_right H
    exact (keys_perm hp2).nodup_iff.1 h.nodup
  rw [keys_append] at hnd
  have hdis := (List.nodup_append.1 hnd).2.2
  have hN : ∀ k, k ∈ keys N ↔ k ∈ keys A ∨ k ∈ keys R := fun k => by rw [(keys_perm hp).mem_iff, keys_append, List.mem_append]
  have hRm : ∀ e ∈ R, e ∈ N := fun e he => hp.mem_iff.2 (List.mem_append_right _ he)
  have hRH : ∀ e ∈ R ++ H, e.holds w' := fun e he => by
    have h1 : e.holds w := h.has e (by
      rcases List.mem_append.1 he with he | he
      · exact List.mem_append_left _ (hRm e he)
      · exact List.mem_append_right _ he)
    exact Ent.keep h1 h'.size fun k hk2 => hold k (Ent.lt h1 hk2) fun hA => hdis k hA k (mem_keys he hk2) rfl
  have hRHk : ∀ k ∈ keys (R ++ H), k < w.heap.size := fun k hk => by
    rw [keys_append, List.mem_append] at hk
    refine hlt k ?_
    rw [keys_append, List.mem_append]
    exact hk.imp (fun h1 => (hN k).2 (.inr h1)) id
  have hBf : ∀ e ∈ B, ∀ k, e.key = some k → w.heap.size ≤ k ∨ k ∈ keys A := fun e he k hk => h'.fresh e he k hk
  have hBk : ∀ k ∈ keys B, w.heap.size ≤ k ∨ k ∈ keys A := fun k hk => by
    obtain ⟨e, he, hek⟩ := List.mem_filterMap.1 hk
    exact hBf e he k hek
  refine ⟨h'.os.trans h.os, h'.tape.trans h.tape, h'.output.trans h.output, Nat.le_trans h.size h'.size, fun e he => ?_, fun e he => ?_, ?_, fun k hkS hm => ?_, fun e he k hk => ?_, fun b hb hn ho => ?_⟩
  · rw [List.append_assoc] at he
    rcases List.mem_append.1 he with he | he
    · exact h'.has e (by simpa using he)
    · exact hRH e he
  · have h1 := h.hasS e he
    refine Ent.keep h1 h'.size fun k hk2 => hold k (Ent.lt h1 hk2) fun hA => ?_
    exact h.apart k (mem_keys he hk2) (by rw [keys_append, List.mem_append]; exact .inl ((hN k).2 (.inl hA)))
  · rw [List.append_assoc, keys_append]
    refine List.nodup_append.2 ⟨by have := h'.nodup; rwa [List.append_nil] at this, (List.nodup_append.1 hnd).2.1, fun a ha b hb e => ?_⟩
    subst e
    rcases hBk a ha with h1 | h1
    · have := hRHk a hb; omega
    · exact hdis a h1 a hb rfl
  · rw [List.append_assoc, keys_append, List.mem_append] at hm
    have hkl := keys_lt h.hasS k hkS
    have hap := h.apart k hkS
    rw [keys_append, List.mem_append] at hap
    rcases hm with hm | hm
    · rcases hBk k hm with h1 | h1
      · omega
      · exact hap (.inl ((hN k).2 (.inl h1)))
    · rw [keys_append, List.mem_append] at hm
      exact hap (hm.imp (fun h1 => (hN k).2 (.inr h1)) id)
  · have hNf : ∀ k ∈ keys N, w0.heap.size ≤ k ∨ k ∈ Df.ow := fun k hk => by
      obtain ⟨y, hy, hyk⟩ := List.mem_filterMap.1 hk
      exact h.fresh y hy k hyk
    rcases List.mem_append.1 he with he | he
    · rcases hBf e he k hk with h1 | h1
      · exact .inl (Nat.le_trans h.size h1)
      · exact hNf k ((hN k).2 (.inl h1))
    · exact hNf k ((hN k).2 (.inr (mem_keys he hk)))
  · rw [← h.old b hb hn ho]
    refine hold b (Nat.lt_of_lt_of_le hb h.size) fun hA => ?_
    obtain ⟨y, hy, hyk⟩ := List.mem_filterMap.1 ((hN b).2 (.inl hA))
    rcases h.fresh y hy b hyk with h1 | h1
    · omega
    · exact ho h1
section
variable {P : Program} {w0 : World} {n : Nat} {S N H : Hp} {l : Fr} {ops : Array Oper} {C : World → Prop} {K : Act → World → Prop} {r : List (Bool × Nat)} {i : Nat}
theorem At.callX {d : Option Nat} {fx : Operand} {xs : List Operand} {ats : Array TypeId} {ty : TypeId} {pos : String} {af : Array Edge} {gd : Option (Nat × Bool)} {f : FuncId} {fst cap : List Value} {vs args : List Value} {S' A T : Hp} {R : Value → Hp → Prop}
    (ho : ops[i]? = some ⟨d, .call { callee := .value fx, args := xs.toArray, argTypes := ats }, ty, pos, af, gd⟩) (hdn : (match d with | none => true | some d => Nat.blt d n) = true) (hg : wantG ops l ⟨d, .call { callee := .value fx, args := xs.toArray, argTypes := ats }, ty, pos, af, gd⟩ = some true)
    (hf : Ev n l true fx (.func (.func f) fst.toArray cap.toArray)) (hxs : Evs n l true xs vs) (hargs : fst ++ vs ++ cap = args) (hu : Pick N A T) (hS : Rds (fun w => St w0 w S N H) S') (hc : FnX P f args S' A R) (hSe : Aprt w0 S N H S' A)
    (h : ∀ v B, R v B → Cl w0 S (B ++ T) H C ∧ At w0 n S (putO d v l) (B ++ T) H (wpSch P ops C K r)) : At w0 n S l N H (wpSch P ops C K ((false, i) :: r)) :=
  At.eW (d := d) ho hg fun a w ha hw => by
    unfold Oper.wp
    rw [run_call rfl ha hf hxs hc.1, Oper.upon_enter]
    have e1 : fst.toArray ++ vs.toArray ++ cap.toArray = args.toArray := by rw [← hargs]; simp
    rw [e1]
    have hp := hu.perm
    have hnA : (keys A).Nodup := by
      have h1 := hw.nodup
      rw [keys_append] at h1
      have h2 := (keys_perm hp).nodup_iff.1 (List.nodup_append.1 h1).1
      rw [keys_append] at h2
      exact (List.nodup_append.1 h2).1
    have hw' : @St ⟨[], keys A⟩ w w S' A [] := StO.mk rfl rfl rfl (Nat.le_refl _) (fun e he => hw.has e (List.mem_append_left _ (hp.mem_iff.2 (List.mem_append_left _ (by simpa using he))))) (fun x hx => hS.all x hx w hw) (by simpa using hnA) (by simpa using hSe w hw) (fun e he k hk => .inr (mem_keys he hk)) (fun _ _ _ _ => rfl)
    refine (hc.2 w hw').mono ?_
    rintro e0 w' ⟨v, B, hR, rfl, hst⟩
    have := hw.callX hp hst
    obtain ⟨h1, h2⟩ := h v B hR
    refine ⟨h1 w' this, h2 _ w' ?_ this⟩
    cases d with
    | none => exact ha
    | some d => exact ha.put (by simpa using hdn) rfl
end
theorem At.reH {w0 : World} {n : Nat} {S N H H' : Hp} {l : Fr} {X : Act → World → Prop} (hH : H = H') (h : At w0 n S l N H' X) : At w0 n S l N H X := by subst hH; exact h
def orOne (a : Int) : Int := if a % 2 = 1 then a else a + 1
theorem R.or1V {P : Program} {n : Nat} {l : Fr} {C : World → Prop} {g : Bool} {d : Option Tmp} {x : Operand} {T U : TypeId} {ty : TypeId} {pos : String} {af : Array Edge} {gd : Option (Nat × Bool)} {a : Int} (hx : Ev n l g x (.int .i64 a)) (hb : g = true → -9223372036854775808 ≤ a ∧ a ≤ 9223372036854775807) :
    RunsC P n l C g ⟨d, .binOp .or T x (.const (.int .i64 1)) U, ty, pos, af, gd⟩ (.int .i64 (orOne a)) := fun hg A w ha _ => by
  obtain ⟨h1, h2⟩ := hb hg
  have e : A.eval (.const (.int .i64 1)) = .int .i64 1 := rfl
  simp only [execOp, hx.eq hg ha, e]
  have hm : 0 ≤ a % 18446744073709551616 ∧ a % 18446744073709551616 < 18446744073709551616 := ⟨Int.emod_nonneg _ (by decide), Int.emod_lt_of_pos _ (by decide)⟩
  obtain ⟨c, hc⟩ := Int.eq_ofNat_of_zero_le hm.1
  have e1 : (BitVec.ofInt 64 a ||| BitVec.ofInt 64 (1 : Int)).toNat = c ||| 1 := by
    rw [BitVec.toNat_or, BitVec.toNat_ofInt, BitVec.toNat_ofInt]
    have q1 : (a % ((2 ^ 64 : Nat) : Int)).toNat = c := by
      show (a % (18446744073709551616 : Int)).toNat = c
      rw [hc]; rfl
    rw [q1]; rfl
  have e2 : c ||| 1 = if c % 2 = 1 then c else c + 1 := by
    obtain ⟨q, hq⟩ : ∃ q, c = 2 * q ∨ c = 2 * q + 1 := ⟨c / 2, by omega⟩
    rcases hq with hq | hq
    · have : 2 ^ 1 * q + 1 = 2 ^ 1 * q ||| 1 := Nat.two_pow_add_eq_or_of_lt (by decide) q
      rw [if_neg (by omega), hq]; simpa using this.symm
    · have : 2 ^ 1 * q + 1 = 2 ^ 1 * q ||| 1 := Nat.two_pow_add_eq_or_of_lt (by decide) q
      rw [if_pos (by omega), hq]
      have h3 : 2 * q + 1 = 2 * q ||| 1 := by simpa using this
      rw [h3, Nat.or_assoc, Nat.or_self]
  have e3 : IntKind.i64.wrap (((BitVec.ofInt IntKind.i64.bits a ||| BitVec.ofInt IntKind.i64.bits (1 : Int)).toNat : Nat) : Int) = orOne a := by
    show IntKind.i64.wrap (((BitVec.ofInt 64 a ||| BitVec.ofInt 64 (1 : Int)).toNat : Nat) : Int) = orOne a
    rw [e1, e2, IntKind.wrap_i64]
    unfold orOne
    by_cases hp : c % 2 = 1
    · rw [if_pos hp, if_pos (by omega)]; omega
    · rw [if_neg hp, if_neg (by omega)]; omega
  simp only [eqGuard, binOp, Op.intBits]
  show Sem.run P (do let v ← (do (pure () : Sem Unit); (pure (Value.int .i64 (IntKind.i64.wrap (((BitVec.ofInt IntKind.i64.bits a ||| BitVec.ofInt IntKind.i64.bits (1 : Int)).toNat : Nat) : Int))) : Sem Value)); pure (Next.value v)) w = _
  rw [e3]; rfl
theorem At.final3 {P : Program} {w0 : World} {n : Nat} {S N H : Hp} {l : Fr} {fn : Func} {R : Value → Hp → Hp → Prop} {t u s : ResultVar} {v x y : Value} {N' : Hp} (hr : fn.results = #[t, u, s]) (hv : ResV P w0 n S N H l t v) (hx : ResV P w0 n S N H l u x) (hy : ResV P w0 n S N H l s y)
    (hN : N'.Sublist N) (hR : R (.tuple #[v, x, y]) N' H) (hd : (Df.ds : List Deferred) = [] := by rfl) : At w0 n S l N H (bodyPost P fn (PostOf w0 S R) .ret) := fun a w ha hw =>
  ⟨ha.defers.trans hd, .tuple #[v, x, y], by
    have h1 := hv a w ha hw
    have h2 := hx a w ha hw
    have h3 := hy a w ha hw
    rw [results_eq, hr]
    simp [h1, h2, h3], .tuple #[v, x, y], N', H, hR, rfl, hw.forget hN⟩
theorem Aprt.row {w0 : World} {S N H A : Hp} {v : Value} {E : TypeId} {sz m : Nat} {xs : List Value} (h : (A ++ [Ent.row v E sz m xs]).Sublist (N ++ H) ∨ (Ent.row v E sz m xs :: A).Sublist (N ++ H)) : Aprt w0 S N H [.rd v sz m xs] A := fun w hw k hk hA => by
  have hkr : k ∈ keys [Ent.row v E sz m xs] := by
    obtain ⟨x, hx, hxk⟩ := List.mem_filterMap.1 hk
    simp at hx; subst hx
    refine List.mem_filterMap.2 ⟨Ent.row v E sz m xs, by simp, ?_⟩
    simp only [Ent.key] at hxk ⊢
    split at hxk
    · cases hxk
    · exact hxk
  rcases h with h | h
  · have := (h.filterMap Ent.key).nodup hw.nodup
    rw [List.filterMap_append] at this
    exact (List.nodup_append.1 this).2.2 k hA k hkr rfl
  · have := (h.filterMap Ent.key).nodup hw.nodup
    rw [show Ent.row v E sz m xs :: A = [Ent.row v E sz m xs] ++ A from rfl, List.filterMap_append] at this
    exact (List.nodup_append.1 this).2.2 k hkr k hA rfl
theorem At.finalX {P : Program} {w0 : World} {n : Nat} {S N : Hp} {l : Fr} {fn : Func} {R : Value → Hp → Prop} {t : ResultVar} {v : Value} {N' : Hp} {K : List Nat} (hd : (Df.ds : List Deferred) = []) (hk : (Df.ow : List Nat) = K) (hr : fn.results = #[t]) (hv : ResV P w0 n S N [] l t v) (hN : N'.Sublist N) (hR : R v N') :
    At w0 n S l N [] (bodyPost P fn (PostX K w0 S R) .ret) := fun a w ha hw =>
  ⟨ha.defers.trans hd, v, by
    have := hv a w ha hw
    rw [results_eq, hr]
    simp [this], v, N', hR, rfl, (hw.forget hN).ofOw hk⟩
theorem At.finalX2 {P : Program} {w0 : World} {n : Nat} {S N : Hp} {l : Fr} {fn : Func} {R : Value → Hp → Prop} {t u : ResultVar} {v x : Value} {N' : Hp} {K : List Nat} (hd : (Df.ds : List Deferred) = []) (hk : (Df.ow : List Nat) = K) (hr : fn.results = #[t, u]) (hv : ResV P w0 n S N [] l t v) (hx : ResV P w0 n S N [] l u x)
    (hN : N'.Sublist N) (hR : R (.tuple #[v, x]) N') : At w0 n S l N [] (bodyPost P fn (PostX K w0 S R) .ret) := fun a w ha hw =>
  ⟨ha.defers.trans hd, .tuple #[v, x], by
    have h1 := hv a w ha hw
    have h2 := hx a w ha hw
    rw [results_eq, hr]
    simp [h1, h2], .tuple #[v, x], N', hR, rfl, (hw.forget hN).ofOw hk⟩
theorem At.finalX0 {P : Program} {w0 : World} {n : Nat} {S N : Hp} {l : Fr} {fn : Func} {R : Value → Hp → Prop} {N' : Hp} {K : List Nat} (hd : (Df.ds : List Deferred) = []) (hk : (Df.ow : List Nat) = K) (hr : fn.results = #[]) (hN : N'.Sublist N) (hR : R (.tuple #[]) N') (e : Exit) (he : e = .ret ∨ e = .normal) :
    At w0 n S l N [] (bodyPost P fn (PostX K w0 S R) e) := fun a w ha hw => by
  have : a.defers = [] ∧ ∃ v, (results fn a.tmps).run P w = .ok v w ∧ PostX K w0 S R (.returned v) w :=
    ⟨ha.defers.trans hd, .tuple #[], by simp [results, hr], .tuple #[], N', hR, rfl, (hw.forget hN).ofOw hk⟩
  rcases he with rfl | rfl <;> exact this
end
def IsO (x : Value) (B : Hp) : Value → Hp → Prop := fun v N => v = x ∧ N = B
end Go.Proofs.YtbolanigdkgbdaaGreat
namespace Go.Proofs.YtbolanigdkgbdaaGreat
open Go Go.RowKit
set_option linter.unusedSectionVars false
class FO (P : Program) (s f : Nat) (off : outParam Nat) : Prop where
  h : fieldOff? P s f = some off
section
variable [Df] {P : Program} {n : Nat} {l : Fr} {C : World → Prop} {g : Bool} {d : Option Tmp} {ty : TypeId} {pos : String} {af : Array Edge} {gd : Option (Nat × Bool)}
theorem R.fa {x : Operand} {s f b i off : Nat} [fo : FO P s f off] (hx : Ev n l g x (.pointer (some ⟨b, i, none⟩))) :
    RunsC P n l C g ⟨d, .fieldAddr s x f, ty, pos, af, gd⟩ (.pointer (some ⟨b, i + off, none⟩)) := R.fieldAddr fo.h hx
class US (P : Program) (T : TypeId) (E : outParam TypeId) : Prop where
  h : P.underlying T = some (.slice E)
class SZ (P : Program) (T : TypeId) (m : outParam Nat) : Prop where
  h : (P.info? T).map (·.size) = some m
class UA (P : Program) (T : TypeId) (m : outParam Nat) : Prop where
  h : ∃ D, P.underlying T = some D ∧ plainD D = false ∧ (P.info? T).map (·.size) = some m
theorem UA.mk' {P : Program} {T : TypeId} {D : TypeDesc} {m : Nat} (h : P.underlying T = some D) (hD : plainD D = false) (hs : (P.info? T).map (·.size) = some m) : UA P T m := ⟨D, h, hD, hs⟩
class UL (P : Program) (T : TypeId) : Prop where
  h : ∃ D, P.underlying T = some D ∧ plainD D = true
theorem UL.mk' {P : Program} {T : TypeId} {D : TypeDesc} (h : P.underlying T = some D) (hD : plainD D = true) : UL P T := ⟨D, h, hD⟩
theorem R.lu {x : Operand} {T : TypeId} {b i : Nat} {v : Value} [u : UL P T] (hx : Ev n l g x (.pointer (some ⟨b, i, none⟩))) (hc : CellIn C b i v) :
    RunsC P n l C g ⟨d, .load T x, ty, pos, af, gd⟩ v := by
  obtain ⟨D, h, hD⟩ := u.h
  exact R.load h hD hx hc
theorem R.la {x : Operand} {T : TypeId} {b i m : Nat} {vs : List Value} [u : UA P T m] (hm : vs.length = m) (hx : Ev n l g x (.pointer (some ⟨b, i, none⟩))) (hc : CellsIn C b i vs) : RunsC P n l C g ⟨d, .load T x, ty, pos, af, gd⟩ (.agg vs.toArray) := by
  obtain ⟨D, h, hD, hs⟩ := u.h
  subst hm
  exact R.loadAgg h hD hs hx hc
theorem R.la3 {x : Operand} {T : TypeId} {b i : Nat} {a0 a1 a2 : Value} [u : UA P T 3] (hx : Ev n l g x (.pointer (some ⟨b, i, none⟩))) (hc : CellsIn C b i [a0, a1, a2]) : RunsC P n l C g ⟨d, .load T x, ty, pos, af, gd⟩ (.agg #[a0, a1, a2]) := R.la rfl hx hc
theorem R.la4 {x : Operand} {T : TypeId} {b i : Nat} {a0 a1 a2 a3 : Value} [u : UA P T 4] (hx : Ev n l g x (.pointer (some ⟨b, i, none⟩))) (hc : CellsIn C b i [a0, a1, a2, a3]) : RunsC P n l C g ⟨d, .load T x, ty, pos, af, gd⟩ (.agg #[a0, a1, a2, a3]) := R.la rfl hx hc
theorem R.la5 {x : Operand} {T : TypeId} {b i : Nat} {a0 a1 a2 a3 a4 : Value} [u : UA P T 5] (hx : Ev n l g x (.pointer (some ⟨b, i, none⟩))) (hc : CellsIn C b i [a0, a1, a2, a3, a4]) : RunsC P n l C g ⟨d, .load T x, ty, pos, af, gd⟩ (.agg #[a0, a1, a2, a3, a4]) := R.la rfl hx hc
theorem R.la7 {x : Operand} {T : TypeId} {b i : Nat} {a0 a1 a2 a3 a4 a5 a6 : Value} [u : UA P T 7] (hx : Ev n l g x (.pointer (some ⟨b, i, none⟩))) (hc : CellsIn C b i [a0, a1, a2, a3, a4, a5, a6]) : RunsC P n l C g ⟨d, .load T x, ty, pos, af, gd⟩ (.agg #[a0, a1, a2, a3, a4, a5, a6]) := R.la rfl hx hc
theorem R.eqF {k : IntKind} {a b : Int} {T U : TypeId} {x y : Operand} (hx : Ev n l g x (.int k a)) (hy : Ev n l g y (.int k b)) (h : ¬ a = b) : RunsC P n l C g ⟨d, .binOp .eql T x y U, ty, pos, af, gd⟩ (.bool false) := R.as (R.eql hx hy) fun _ => congrArg Value.bool (decide_eq_false h)
theorem R.eqT {k : IntKind} {a b : Int} {T U : TypeId} {x y : Operand} (hx : Ev n l g x (.int k a)) (hy : Ev n l g y (.int k b)) (h : a = b) : RunsC P n l C g ⟨d, .binOp .eql T x y U, ty, pos, af, gd⟩ (.bool true) := R.as (R.eql hx hy) fun _ => congrArg Value.bool (decide_eq_true h)
theorem R.le {x : Operand} {T : TypeId} {E sz m : Nat} {v : Value} {xs : List Value} [u : US P T E] (hx : Ev n l g x v) (hr : RdIn C v sz m xs) :
    RunsC P n l C g ⟨d, .call { callee := .builtin .len, args := #[x], argTypes := #[T] }, ty, pos, af, gd⟩ (.int .i64 m) := R.lenRd u.h hx hr
theorem R.ix {x y : Operand} {T E sz m : Nat} {k : IntKind} {j : Int} {v : Value} {xs : List Value} [u : US P T E] [s : SZ P E sz] (hx : Ev n l g x v) (hr : RdIn C v sz m xs) (hy : Ev n l g y (.int k j))
    (hj : g = true → 0 ≤ j ∧ j < m) : RunsC P n l C g ⟨d, .indexAddr T x y, ty, pos, af, gd⟩ (elemPtr v (j.toNat * sz)) := R.indexRd u.h s.h hx hr hy hj
theorem R.fr {x : Operand} {s f off sz m k : Nat} {v : Value} {xs : List Value} [fo : FO P s f off] (hx : Ev n l g x (elemPtr v k)) (hr : RdIn C v sz m xs) (hm : g = true → 0 < m) :
    RunsC P n l C g ⟨d, .fieldAddr s x f, ty, pos, af, gd⟩ (elemPtr v (k + off)) := R.fieldRd fo.h hx hr hm
theorem R.lr {x : Operand} {T : TypeId} {sz m k : Nat} {v u : Value} {xs : List Value} [t : UL P T] (hx : Ev n l g x (elemPtr v k)) (hr : RdIn C v sz m xs) (hu : g = true → xs[k]? = some u) :
    RunsC P n l C g ⟨d, .load T x, ty, pos, af, gd⟩ u := by
  obtain ⟨D, h, hD⟩ := t.h
  exact R.loadRd h hD hx hr hu
end
def upto : List Oper → Nat → List (Bool × Nat)
  | [], _ => []
  | _ :: r, i => (false, i) :: upto r (i + 1)
theorem upto_eq : ∀ (os : List Oper) (i : Nat), upto os i = (List.range' i os.length).map fun j => (false, j)
  | [], _ => rfl
  | _ :: r, i => by simp only [upto, List.length_cons, List.range'_succ, List.map_cons, upto_eq r (i + 1)]
section
variable [Df] {P : Program} {w0 : World} {n : Nat} {S N H : Hp} {l : Fr} {ops : Array Oper} {C : World → Prop} {K : Act → World → Prop}
theorem At.pl {id : Nat} {Q : Exit → Act → World → Prop} (h : At w0 n S l N H (wpSch P ops (fun _ => True) (Q .normal) (upto ops.toList 0))) : At w0 n S l N H ((Code.region id ops false).wp P Q) :=
  At.plain _ (by rw [upto_eq, List.range_eq_range']; rfl) h
theorem At.nilU {i : Nat} (h : At w0 n S l N H K) : At w0 n S l N H (wpSch P ops C K (upto [] i)) := h
end
def getO : List Oper → Nat → Option Oper
  | [], _ => none
  | o :: _, 0 => some o
  | _ :: r, i + 1 => getO r i
theorem getO_eq : ∀ (os : List Oper) (i : Nat), getO os i = os[i]?
  | [], _ => by simp [getO]
  | _ :: _, 0 => by simp [getO]
  | _ :: r, i + 1 => by simp [getO, getO_eq r i]
def preO (ops : Array Oper) (n : Nat) (l : Fr) (i : Nat) : Option (Oper × Nat × Bool) :=
  match getO ops.toList i with
  | some ⟨some d, op, ty, pos, af, gd⟩ => match Nat.blt d n with
    | true => match wantG ops l ⟨some d, op, ty, pos, af, gd⟩ with
      | some g => some (⟨some d, op, ty, pos, af, gd⟩, d, g)
      | none => none
    | false => none
  | _ => none
theorem preO_ok {ops : Array Oper} {n : Nat} {l : Fr} {i d : Nat} {o : Oper} {g : Bool} (h : preO ops n l i = some (o, d, g)) : ops[i]? = some o ∧ o.dst = some d ∧ Nat.blt d n = true ∧ wantG ops l o = some g := by
  unfold preO at h
  split at h
  · rename_i d' op ty pos af gd ho
    rw [getO_eq, Array.getElem?_toList] at ho
    split at h
    · rename_i hb
      split at h
      · rename_i hw; injection h with h; injection h with h1 h; injection h with h2 h3; subst h1 h2 h3; exact ⟨ho, rfl, hb, hw⟩
      · cases h
    · cases h
  · cases h
section
variable [Df] {P : Program} {w0 : World} {n : Nat} {S N H : Hp} {l : Fr} {ops : Array Oper} {C : World → Prop} {K : Act → World → Prop} {i : Nat} {r : List (Bool × Nat)}
def ES (w0 : World) (n : Nat) (S : Hp) (l : Fr) (N H : Hp) (P : Program) (ops : Array Oper) (C : World → Prop) (K : Act → World → Prop) (i : Nat) (r : List (Bool × Nat)) : Prop := At w0 n S l N H (wpSch P ops C K ((false, i) :: r))
theorem At.e1 (h : ES w0 n S l N H P ops C K i r) : At w0 n S l N H (wpSch P ops C K ((false, i) :: r)) := h
theorem At.eU {o : Oper} {os : List Oper} (h : ES w0 n S l N H P ops C K i (upto os (i + 1))) : At w0 n S l N H (wpSch P ops C K (upto (o :: os) i)) := h
theorem ES.go {d : Nat} {o : Oper} {g : Bool} {v : Value} (hp : preO ops n l i = some (o, d, g)) (hC : Cl w0 S N H C) (hr : RunsC P n l (fun w => St w0 w S N H) g o v)
    (h : At w0 n S ((d, g, v) :: l) N H (wpSch P ops C K r)) : ES w0 n S l N H P ops C K i r := by obtain ⟨ho, hd, hdn, hg⟩ := preO_ok hp; exact At.e ho hd hdn hg hC hr h
def SS (w0 : World) (n : Nat) (S : Hp) (l : Fr) (N H : Hp) (P : Program) (ops : Array Oper) (C : World → Prop) (K : Act → World → Prop) (i : Nat) (r : List (Bool × Nat)) : Prop := At w0 n S l N H (wpSch P ops C K ((true, i) :: r))
theorem At.s1 (h : SS w0 n S l N H P ops C K i r) : At w0 n S l N H (wpSch P ops C K ((true, i) :: r)) := h
theorem SS.go {d : Nat} {o : Oper} {g : Bool} {v : Value} (hp : preO ops n l i = some (o, d, g)) (hC : Cl w0 S N H C) (hr : RunsC P n l C g o v)
    (h : At w0 n S ((d, g, v) :: l) N H (wpSch P ops C K r)) : SS w0 n S l N H P ops C K i r := by obtain ⟨ho, hd, hdn, hg⟩ := preO_ok hp; exact At.s ho hd hdn hg hC hr h
theorem At.plA {id : Nat} {os : List Oper} {Q : Exit → Act → World → Prop} (h : At w0 n S l N H (wpSch P os.toArray (fun _ => True) (Q .normal) (upto os 0))) : At w0 n S l N H ((Code.region id os.toArray false).wp P Q) := At.pl h
end
section
variable [Df] {P : Program} {w0 : World} {n : Nat} {S N H L : Hp} {l : Fr} {Q : Exit → Act → World → Prop}
theorem sl {α : Type} {a b : List α} (h : a.Sublist b := by ((repeat (first | exact List.Sublist.refl _ | exact List.nil_sublist _ | apply List.Sublist.cons_cons | apply List.Sublist.cons | exact List.sublist_append_right _ _ | exact List.sublist_append_left _ _ | apply List.Sublist.append_left | apply List.sublist_append_of_sublist_right)) <;> fail)) : a.Sublist b := h
theorem kz (h : L.Sublist (S ++ (N ++ H)) := by exact sl) : Cl w0 S N H (Kept L) := Cl.kept (keepOf h)
theorem kI : Cl w0 S N H (Kept (S ++ (N ++ H))) := Cl.kept fun _ h => h
def CondAt (w0 : World) (n : Nat) (S : Hp) (l : Fr) (N H : Hp) (P : Program) (c : Operand) (x y : Code) (Q : Exit → Act → World → Prop) : Prop := At w0 n S l N H ((Code.cond c x y).wp P Q)
theorem At.cond1 {c : Operand} {x y : Code} (h : CondAt w0 n S l N H P c x y Q) : At w0 n S l N H ((Code.cond c x y).wp P Q) := h
variable {ops : Array Oper} {C : World → Prop} {K : Act → World → Prop} {i : Nat} {r : List (Bool × Nat)} {d : Nat} {o : Oper} {g : Bool} {v : Value}
theorem eA (hp : preO ops n l i = some (o, d, g)) (hr : RunsC P n l (fun w => St w0 w S N H) g o v) (h : At w0 n S ((d, g, v) :: l) N H (wpSch P ops (fun _ => True) K r)) : At w0 n S l N H (wpSch P ops (fun _ => True) K ((false, i) :: r)) := ES.go hp .all hr h
theorem eC (hp : preO ops n l i = some (o, d, g)) (hC : Cl w0 S N H C) (hr : RunsC P n l (fun w => St w0 w S N H) g o v) (h : At w0 n S ((d, g, v) :: l) N H (wpSch P ops C K r)) : At w0 n S l N H (wpSch P ops C K ((false, i) :: r)) := ES.go hp hC hr h
theorem eJ (hp : preO ops n l i = some (o, d, g)) (hr : RunsC P n l (fun w => St w0 w S N H) g o v) (h : At w0 n S ((d, g, v) :: l) N H (wpSch P ops (Kept (S ++ (N ++ H))) K r)) : At w0 n S l N H (wpSch P ops (Kept (S ++ (N ++ H))) K ((false, i) :: r)) := ES.go hp kI hr h
theorem sC (hp : preO ops n l i = some (o, d, g)) (hC : Cl w0 S N H C) (hr : RunsC P n l C g o v) (h : At w0 n S ((d, g, v) :: l) N H (wpSch P ops C K r)) : At w0 n S l N H (wpSch P ops C K ((true, i) :: r)) := SS.go hp hC hr h
theorem sJ (hp : preO ops n l i = some (o, d, g)) (hr : RunsC P n l (Kept (S ++ (N ++ H))) g o v) (h : At w0 n S ((d, g, v) :: l) N H (wpSch P ops (Kept (S ++ (N ++ H))) K r)) : At w0 n S l N H (wpSch P ops (Kept (S ++ (N ++ H))) K ((true, i) :: r)) := SS.go hp kI hr h
theorem dF {p : Prop} [Decidable p] (h : ¬ p := by omega) {g : Bool} : g = true → Value.bool (decide p) = .bool false := fun _ => congrArg Value.bool (decide_eq_false h)
theorem dT {p : Prop} [Decidable p] (h : p := by omega) {g : Bool} : g = true → Value.bool (decide p) = .bool true := fun _ => congrArg Value.bool (decide_eq_true h)
theorem dR {p : Prop} [Decidable p] (h : p := by rfl) {g : Bool} : g = true → Value.bool (decide p) = .bool true := fun _ => congrArg Value.bool (decide_eq_true h)
theorem gO {p : Prop} {g : Bool} (h : g = true → p := by intro hg; omega) : g = true → p := h
abbrev pt (b i : Nat) : Bool × Value := (true, .pointer (some ⟨b, i, none⟩))
abbrev iv (a : Int) : Bool × Value := (true, .int .i64 a)
abbrev bv (a : Bool) : Bool × Value := (true, .bool a)
abbrev tt (i : Nat) : Bool × Nat := (true, i)
abbrev ff (i : Nat) : Bool × Nat := (false, i)
def mF (n : Nat) (fs : List Nat) : Array Bool := ((List.range n).map fun i => !fs.contains i).toArray
def mT (n : Nat) (fs : List Nat) : Array Bool := ((List.range n).map fun i => fs.contains i).toArray
theorem Evs.k {t : Nat} {v : Value} {xs : List Operand} {vs : List Value} (h : look l t = some (true, v)) (r : Evs n l g xs vs) : Evs n l g (.tmp t :: xs) (v :: vs) := .cons (.t h) r
theorem Evs.kc {v : Value} {xs : List Operand} {vs : List Value} (r : Evs n l g xs vs) : Evs n l g (.const v :: xs) (v :: vs) := .cons .c r
theorem wk {l' : Fr} {N' : Hp} {X : Act → World → Prop} (h : At w0 n S l' N' H X) (hl : Sub l l' := by repeat (first | exact .nil | refine .cons rfl ?_)) (hN : N'.Sublist N := by exact sl) : At w0 n S l N H X := At.weak (Sub.look hl) hN h
end
structure Hold (p : Prop) : Prop where
  h : p
section
variable [Df] {P : Program} {w0 : World} {n : Nat} {S N H : Hp} {l : Fr} {C : World → Prop} {g : Bool} {o : Oper} {v : Value} {sz m b i : Nat} {xs : List Value}
theorem mm {β : Type} {a : β} {l : List β} (h : a ∈ l := by first | exact M0 | exact M1 | exact M2 | exact M3 | exact M4 | exact M5 | exact M6 | exact M7 | exact M8 | exact M9) : a ∈ l := h
theorem ev {x : Operand} (h : Ev n l g x v := by first | exact .t rfl | exact .c | exact .s rfl) : Ev n l g x v := h
theorem rm (h : RdIn C v sz m xs := by first | exact wS mm | exact rS mm | exact wN mm | exact rN mm | exact wK mm | exact rK mm | exact wKN mm | exact rKN mm) : RdIn C v sz m xs := h
theorem cm (h : CellIn C b i v := by first | (apply cS; exact mm; exact rfl) | (apply cN; exact mm; exact rfl) | (apply cK; exact mm; exact rfl) | (apply cKN; exact mm; exact rfl)) : CellIn C b i v := h
theorem ct {cs : Array Value} (h : CellsAt cs i xs := by repeat (first | exact trivial | refine ⟨rfl, ?_⟩)) : CellsAt cs i xs := h
theorem cms (h : CellsIn C b i xs := by first | (apply csS; exact mm; exact ct) | (apply csN; exact mm; exact ct) | (apply csK; exact mm; exact ct) | (apply csKN; exact mm; exact ct)) : CellsIn C b i xs := h
theorem up1 {e e' : Ent} {N' H' : Hp} (h : Up N H e e' N' H' := by first | exact .n U0 | exact .n U1 | exact .n U2 | exact .n U3 | exact .n U4 | exact .n U5 | exact .n U6 | exact .n U7 | exact .h U0 | exact .h U1 | exact .h U2 | exact .h U3) : Up N H e e' N' H' := h
theorem cl (h : Cl w0 S N H C := by first | exact .all | exact kI | exact Cl.none | exact kz) : Cl w0 S N H C := h
theorem r0 (h : RunsC P n l C g o v := by first
  | (with_reducible apply R.move); exact ev
  | (with_reducible apply R.nilCheckP); exact ev
  | (with_reducible apply R.fa); exact ev
  | (with_reducible apply R.lu); exact ev; exact cm
  | (with_reducible apply R.assign); exact ev
  | (with_reducible apply R.pickT); exact .t rfl; exact ev
  | (with_reducible apply R.pickF); exact .t rfl; exact ev
  | (with_reducible apply R.extract); exact ev; exact rfl) : RunsC P n l C g o v := h
theorem r1 (h : RunsC P n l C g o v := by first
  | (with_reducible apply R.move); exact ev
  | (with_reducible apply R.nilCheckP); exact ev
  | (with_reducible apply R.fa); exact ev
  | (with_reducible apply R.lu); exact ev; exact cm
  | (with_reducible apply R.assign); exact ev
  | (with_reducible apply R.pickT); exact .t rfl; exact ev
  | (with_reducible apply R.pickF); exact .t rfl; exact ev
  | (with_reducible apply R.extract); exact ev; exact rfl
  | (with_reducible apply R.le); exact ev; exact rm
  | (with_reducible apply R.la4); exact ev; exact cms
  | (with_reducible apply R.la3); exact ev; exact cms
  | (with_reducible apply R.la5); exact ev; exact cms
  | (with_reducible apply R.la7); exact ev; exact cms
  | (with_reducible apply R.addI); exact ev; exact ev; exact gO
  | (with_reducible apply R.subI); exact ev; exact ev; exact gO
  | (with_reducible apply R.mulI); exact ev; exact ev; exact gO
  | (with_reducible apply R.ix); exact ev; exact rm; exact ev; exact gO
  | (with_reducible apply R.lr); exact ev; exact rm; (intro hg; first | exact Ek.get0 rfl (by omega) | exact Ek.getN rfl (by omega) | exact Ek.getM rfl)
  | (with_reducible apply R.fr); exact ev; exact rm; exact gO
  | (with_reducible apply R.nilCheckE); exact ev; assumption
  | (with_reducible apply R.fieldE); exact FO.h; exact ev; assumption
  | (with_reducible apply R.pickAnd); exact .t rfl; exact rfl; (intro hg h; rw [h]; rfl)
  | (with_reducible apply R.pickOr); exact .t rfl; exact rfl; (intro hg h; rw [h]; rfl)
  | (with_reducible apply R.indexN); exact US.h; exact SZ.h; exact ev; assumption; exact ev; (intro hg; exact midB)) : RunsC P n l C g o v := h
theorem r2 (h : RunsC P n l C g o v := by first
  | exact r1
  | (with_reducible apply R.eqF); exact ev; exact ev; omega
  | (with_reducible apply R.eqT); exact ev; exact ev; first | omega | rfl
  | (with_reducible refine R.as (R.lss ?_ ?_) ?_); exact ev; exact ev; exact dT
  | (with_reducible refine R.as (R.lss ?_ ?_) ?_); exact ev; exact ev; exact dF
  | (with_reducible refine R.as (R.leq ?_ ?_) ?_); exact ev; exact ev; exact dT
  | (with_reducible refine R.as (R.leq ?_ ?_) ?_); exact ev; exact ev; exact dF
  | (with_reducible refine R.as (R.gtr ?_ ?_) ?_); exact ev; exact ev; exact dT
  | (with_reducible refine R.as (R.gtr ?_ ?_) ?_); exact ev; exact ev; exact dF
  | (with_reducible refine R.as (R.geq ?_ ?_) ?_); exact ev; exact ev; exact dT
  | (with_reducible refine R.as (R.geq ?_ ?_) ?_); exact ev; exact ev; exact dF
  | (with_reducible refine R.as (R.neq ?_ ?_) ?_); exact ev; exact ev; exact fun _ => congrArg Value.bool (congrArg Bool.not (decide_eq_true (by first | rfl | omega)))
  | (with_reducible refine R.as (R.neq ?_ ?_) ?_); exact ev; exact ev; exact fun _ => congrArg Value.bool (congrArg Bool.not (decide_eq_false (by omega)))) : RunsC P n l C g o v := h
theorem r3 (h : RunsC P n l C g o v := by first
  | exact r1
  | (with_reducible apply R.eql); exact ev; exact ev
  | (with_reducible apply R.lss); exact ev; exact ev
  | (with_reducible apply R.leq); exact ev; exact ev
  | (with_reducible apply R.gtr); exact ev; exact ev
  | (with_reducible apply R.geq); exact ev; exact ev
  | (with_reducible apply R.neq); exact ev; exact ev
  | (with_reducible apply R.min2); exact ev; exact ev
  | (with_reducible apply R.max2); exact ev; exact ev
  | (with_reducible apply R.not); exact ev) : RunsC P n l C g o v := h
end
theorem W {G' G : Prop} (k : G') (h : Hold G' → G := by
  intro k
  repeat first
    | with_reducible refine At.nil ?_
    | with_reducible refine At.nilU ?_
    | with_reducible refine At.tN ?_
    | with_reducible refine At.seq ?_
    | with_reducible refine At.plA ?_
    | with_reducible refine At.block ?_
    | with_reducible refine At.bN ?_
    | with_reducible refine At.skip ?_
    | with_reducible refine At.ret ?_
    | with_reducible refine At.tR ?_
    | with_reducible refine At.bR ?_
    | with_reducible refine At.exit ?_
    | with_reducible refine At.tE ?_
    | with_reducible refine At.bE ?_
    | (with_reducible refine At.bX ?_ ?_); rfl
    | (with_reducible refine At.cond1 ?_); first | refine At.condT (.t rfl) ?_ | refine At.condF (.t rfl) ?_
    | (first | with_reducible refine At.eU ?_ | with_reducible refine At.e1 ?_); refine ES.go rfl cl r1 ?_
    | (with_reducible refine At.s1 ?_); refine SS.go rfl cl r1 ?_
  exact k.h) : G := h ⟨k⟩
theorem V {G' G : Prop} (k : G') (h : Hold G' → G := by
  intro k
  repeat first
    | (first | with_reducible refine At.eU ?_ | with_reducible refine At.e1 ?_); refine ES.go rfl cl r1 ?_
    | (with_reducible refine At.s1 ?_); refine SS.go rfl cl r1 ?_
  exact k.h) : G := h ⟨k⟩
theorem Y {G' G : Prop} (k : G') (h : Hold G' → G := by
  intro k
  repeat first
    | with_reducible refine At.nil ?_
    | with_reducible refine At.nilU ?_
    | with_reducible refine At.tN ?_
    | with_reducible refine At.seq ?_
    | with_reducible refine At.plA ?_
    | with_reducible refine At.block ?_
    | with_reducible refine At.bN ?_
    | with_reducible refine At.skip ?_
    | with_reducible refine At.ret ?_
    | with_reducible refine At.tR ?_
    | with_reducible refine At.bR ?_
    | with_reducible refine At.exit ?_
    | with_reducible refine At.tE ?_
    | with_reducible refine At.bE ?_
    | (with_reducible refine At.bX ?_ ?_); rfl
    | (with_reducible refine At.cond1 ?_); first | refine At.condT (.t rfl) ?_ | refine At.condF (.t rfl) ?_
    | (first | with_reducible refine At.eU ?_ | with_reducible refine At.e1 ?_); refine ES.go rfl cl r2 ?_
    | (with_reducible refine At.s1 ?_); refine SS.go rfl cl r2 ?_
  exact k.h) : G := h ⟨k⟩
theorem U {G' G : Prop} (k : G') (h : Hold G' → G := by
  intro k
  repeat first
    | with_reducible refine At.nil ?_
    | with_reducible refine At.nilU ?_
    | with_reducible refine At.tN ?_
    | with_reducible refine At.seq ?_
    | with_reducible refine At.plA ?_
    | with_reducible refine At.block ?_
    | with_reducible refine At.bN ?_
    | with_reducible refine At.skip ?_
    | with_reducible refine At.ret ?_
    | with_reducible refine At.tR ?_
    | with_reducible refine At.bR ?_
    | with_reducible refine At.exit ?_
    | with_reducible refine At.tE ?_
    | with_reducible refine At.bE ?_
    | (with_reducible refine At.bX ?_ ?_); rfl
    | (with_reducible refine At.cond1 ?_); first | refine At.condT (.t rfl) ?_ | refine At.condF (.t rfl) ?_
    | (first | with_reducible refine At.eU ?_ | with_reducible refine At.e1 ?_); refine ES.go rfl cl r0 ?_
    | (with_reducible refine At.s1 ?_); refine SS.go rfl cl r0 ?_
  exact k.h) : G := h ⟨k⟩
theorem Z {G' G : Prop} (k : G') (h : Hold G' → G := by
  intro k
  repeat first
    | with_reducible refine At.nil ?_
    | with_reducible refine At.nilU ?_
    | with_reducible refine At.tN ?_
    | with_reducible refine At.seq ?_
    | with_reducible refine At.plA ?_
    | with_reducible refine At.block ?_
    | with_reducible refine At.bN ?_
    | with_reducible refine At.skip ?_
    | with_reducible refine At.ret ?_
    | with_reducible refine At.tR ?_
    | with_reducible refine At.bR ?_
    | with_reducible refine At.exit ?_
    | with_reducible refine At.tE ?_
    | with_reducible refine At.bE ?_
    | (with_reducible refine At.bX ?_ ?_); rfl
    | (with_reducible refine At.cond1 ?_); first | refine At.condT (.t rfl) ?_ | refine At.condF (.t rfl) ?_
    | (first | with_reducible refine At.eU ?_ | with_reducible refine At.e1 ?_); refine ES.go rfl cl r3 ?_
    | (with_reducible refine At.s1 ?_); refine SS.go rfl cl r3 ?_
  exact k.h) : G := h ⟨k⟩
theorem VZ {G' G : Prop} (k : G') (h : Hold G' → G := by
  intro k
  repeat first
    | (first | with_reducible refine At.eU ?_ | with_reducible refine At.e1 ?_); refine ES.go rfl cl r3 ?_
    | (with_reducible refine At.s1 ?_); refine SS.go rfl cl r3 ?_
  exact k.h) : G := h ⟨k⟩
theorem VY {G' G : Prop} (k : G') (h : Hold G' → G := by
  intro k
  repeat first
    | (first | with_reducible refine At.eU ?_ | with_reducible refine At.e1 ?_); refine ES.go rfl cl r2 ?_
    | (with_reducible refine At.s1 ?_); refine SS.go rfl cl r2 ?_
  exact k.h) : G := h ⟨k⟩
theorem At.same [Df] {w0 : World} {n : Nat} {S N H : Hp} {l : Fr} {X : Act → World → Prop} (h : At w0 n S l N H X) : At w0 n S l N H X := h
theorem WD {G' G : Prop} (k : G') (h : Hold G' → G := by
  intro k
  refine At.same ?_
  dsimp only
  refine W ?_
  exact k.h) : G := h ⟨k⟩
theorem UD {G' G : Prop} (k : G') (h : Hold G' → G := by
  intro k
  refine At.same ?_
  dsimp only
  refine U ?_
  exact k.h) : G := h ⟨k⟩
theorem YD {G' G : Prop} (k : G') (h : Hold G' → G := by
  intro k
  refine At.same ?_
  dsimp only
  refine Y ?_
  exact k.h) : G := h ⟨k⟩
theorem ZD {G' G : Prop} (k : G') (h : Hold G' → G := by
  intro k
  refine At.same ?_
  dsimp only
  refine Z ?_
  exact k.h) : G := h ⟨k⟩
end Go.Proofs.YtbolanigdkgbdaaGreat
namespace Go.Proofs.YtbolanigdkgbdaaGreat
open Go Go.RowKit
instance iFO23_0 : FO Tryz.prog 23 0 0 := ⟨by kernel_rfl⟩
instance iFO23_1 : FO Tryz.prog 23 1 1 := ⟨by kernel_rfl⟩
instance iFO23_2 : FO Tryz.prog 23 2 2 := ⟨by kernel_rfl⟩
instance iFO23_3 : FO Tryz.prog 23 3 3 := ⟨by kernel_rfl⟩
instance iFO27_0 : FO Tryz.prog 27 0 0 := ⟨by kernel_rfl⟩
instance iFO27_1 : FO Tryz.prog 27 1 4 := ⟨by kernel_rfl⟩
instance iFO27_2 : FO Tryz.prog 27 2 5 := ⟨by kernel_rfl⟩
instance iFO27_3 : FO Tryz.prog 27 3 6 := ⟨by kernel_rfl⟩
instance iFO43_0 : FO Tryz.prog 43 0 0 := ⟨by kernel_rfl⟩
instance iFO43_1 : FO Tryz.prog 43 1 1 := ⟨by kernel_rfl⟩
instance iFO43_2 : FO Tryz.prog 43 2 2 := ⟨by kernel_rfl⟩
instance iFO57_0 : FO Tryz.prog 57 0 0 := ⟨by kernel_rfl⟩
instance iFO57_1 : FO Tryz.prog 57 1 1 := ⟨by kernel_rfl⟩
instance iFO57_2 : FO Tryz.prog 57 2 2 := ⟨by kernel_rfl⟩
instance iFO57_3 : FO Tryz.prog 57 3 3 := ⟨by kernel_rfl⟩
instance iFO57_4 : FO Tryz.prog 57 4 4 := ⟨by kernel_rfl⟩
instance iFO59_0 : FO Tryz.prog 59 0 0 := ⟨by kernel_rfl⟩
instance iFO59_1 : FO Tryz.prog 59 1 1 := ⟨by kernel_rfl⟩
instance iFO59_2 : FO Tryz.prog 59 2 2 := ⟨by kernel_rfl⟩
instance iFO63_0 : FO Tryz.prog 63 0 0 := ⟨by kernel_rfl⟩
instance iFO63_1 : FO Tryz.prog 63 1 4 := ⟨by kernel_rfl⟩
instance iFO63_2 : FO Tryz.prog 63 2 5 := ⟨by kernel_rfl⟩
instance iFO63_3 : FO Tryz.prog 63 3 6 := ⟨by kernel_rfl⟩
instance iFO63_4 : FO Tryz.prog 63 4 7 := ⟨by kernel_rfl⟩
instance iFO63_5 : FO Tryz.prog 63 5 8 := ⟨by kernel_rfl⟩
instance iFO63_6 : FO Tryz.prog 63 6 9 := ⟨by kernel_rfl⟩
instance iFO63_7 : FO Tryz.prog 63 7 10 := ⟨by kernel_rfl⟩
instance iFO63_8 : FO Tryz.prog 63 8 11 := ⟨by kernel_rfl⟩
instance iFO63_9 : FO Tryz.prog 63 9 12 := ⟨by kernel_rfl⟩
instance iFO63_10 : FO Tryz.prog 63 10 13 := ⟨by kernel_rfl⟩
instance iFO63_11 : FO Tryz.prog 63 11 14 := ⟨by kernel_rfl⟩
instance iFO85_0 : FO Tryz.prog 85 0 0 := ⟨by kernel_rfl⟩
instance iFO85_1 : FO Tryz.prog 85 1 7 := ⟨by kernel_rfl⟩
instance iFO85_2 : FO Tryz.prog 85 2 8 := ⟨by kernel_rfl⟩
instance iFO85_3 : FO Tryz.prog 85 3 9 := ⟨by kernel_rfl⟩
instance iFO85_4 : FO Tryz.prog 85 4 10 := ⟨by kernel_rfl⟩
instance iFO85_5 : FO Tryz.prog 85 5 11 := ⟨by kernel_rfl⟩
instance iFO85_6 : FO Tryz.prog 85 6 12 := ⟨by kernel_rfl⟩
instance iFO90_0 : FO Tryz.prog 90 0 0 := ⟨by kernel_rfl⟩
instance iFO90_1 : FO Tryz.prog 90 1 4 := ⟨by kernel_rfl⟩
instance iFO90_2 : FO Tryz.prog 90 2 5 := ⟨by kernel_rfl⟩
instance iFO90_3 : FO Tryz.prog 90 3 6 := ⟨by kernel_rfl⟩
instance iFO90_4 : FO Tryz.prog 90 4 7 := ⟨by kernel_rfl⟩
instance iFO90_5 : FO Tryz.prog 90 5 8 := ⟨by kernel_rfl⟩
instance iFO90_6 : FO Tryz.prog 90 6 9 := ⟨by kernel_rfl⟩
instance iFO90_7 : FO Tryz.prog 90 7 10 := ⟨by kernel_rfl⟩
instance iFO90_8 : FO Tryz.prog 90 8 11 := ⟨by kernel_rfl⟩
instance iFO90_9 : FO Tryz.prog 90 9 12 := ⟨by kernel_rfl⟩
instance iFO90_10 : FO Tryz.prog 90 10 13 := ⟨by kernel_rfl⟩
instance iFO90_11 : FO Tryz.prog 90 11 14 := ⟨by kernel_rfl⟩
instance iFO95_0 : FO Tryz.prog 95 0 0 := ⟨by kernel_rfl⟩
instance iFO95_1 : FO Tryz.prog 95 1 1 := ⟨by kernel_rfl⟩
instance iFO95_2 : FO Tryz.prog 95 2 6 := ⟨by kernel_rfl⟩
instance iFO110_0 : FO Tryz.prog 110 0 0 := ⟨by kernel_rfl⟩
instance iFO110_1 : FO Tryz.prog 110 1 1 := ⟨by kernel_rfl⟩
instance iFO110_2 : FO Tryz.prog 110 2 2 := ⟨by kernel_rfl⟩
instance iFO110_3 : FO Tryz.prog 110 3 3 := ⟨by kernel_rfl⟩
instance iFO116_0 : FO Tryz.prog 116 0 0 := ⟨by kernel_rfl⟩
instance iFO116_1 : FO Tryz.prog 116 1 1 := ⟨by kernel_rfl⟩
instance iFO116_2 : FO Tryz.prog 116 2 2 := ⟨by kernel_rfl⟩
instance iFO116_3 : FO Tryz.prog 116 3 3 := ⟨by kernel_rfl⟩
instance iFO116_4 : FO Tryz.prog 116 4 4 := ⟨by kernel_rfl⟩
instance iFO116_5 : FO Tryz.prog 116 5 5 := ⟨by kernel_rfl⟩
instance iFO134_5 : FO Tryz.prog 134 5 5 := ⟨by kernel_rfl⟩
instance iFO136_0 : FO Tryz.prog 136 0 0 := ⟨by kernel_rfl⟩
instance iFO136_1 : FO Tryz.prog 136 1 1 := ⟨by kernel_rfl⟩
instance iFO136_4 : FO Tryz.prog 136 4 7 := ⟨by kernel_rfl⟩
instance iFO136_5 : FO Tryz.prog 136 5 8 := ⟨by kernel_rfl⟩
instance iFO136_6 : FO Tryz.prog 136 6 9 := ⟨by kernel_rfl⟩
instance iFO136_7 : FO Tryz.prog 136 7 10 := ⟨by kernel_rfl⟩
instance iFO136_8 : FO Tryz.prog 136 8 11 := ⟨by kernel_rfl⟩
instance iFO136_9 : FO Tryz.prog 136 9 12 := ⟨by kernel_rfl⟩
instance iFO145_0 : FO Tryz.prog 145 0 0 := ⟨by kernel_rfl⟩
instance iFO145_1 : FO Tryz.prog 145 1 4 := ⟨by kernel_rfl⟩
instance iFO145_2 : FO Tryz.prog 145 2 5 := ⟨by kernel_rfl⟩
instance iFO145_3 : FO Tryz.prog 145 3 6 := ⟨by kernel_rfl⟩
instance iFO145_4 : FO Tryz.prog 145 4 7 := ⟨by kernel_rfl⟩
instance iFO145_5 : FO Tryz.prog 145 5 8 := ⟨by kernel_rfl⟩
instance iFO145_6 : FO Tryz.prog 145 6 9 := ⟨by kernel_rfl⟩
instance iFO145_7 : FO Tryz.prog 145 7 10 := ⟨by kernel_rfl⟩
instance iFO145_8 : FO Tryz.prog 145 8 11 := ⟨by kernel_rfl⟩
instance iFO145_9 : FO Tryz.prog 145 9 12 := ⟨by kernel_rfl⟩
instance iFO145_10 : FO Tryz.prog 145 10 13 := ⟨by kernel_rfl⟩
instance iFO156_0 : FO Tryz.prog 156 0 0 := ⟨by kernel_rfl⟩
instance iFO156_1 : FO Tryz.prog 156 1 1 := ⟨by kernel_rfl⟩
instance iFO156_2 : FO Tryz.prog 156 2 5 := ⟨by kernel_rfl⟩
instance iFO156_3 : FO Tryz.prog 156 3 6 := ⟨by kernel_rfl⟩
instance iFO156_4 : FO Tryz.prog 156 4 7 := ⟨by kernel_rfl⟩
instance iFO160_0 : FO Tryz.prog 160 0 0 := ⟨by kernel_rfl⟩
instance iFO160_1 : FO Tryz.prog 160 1 4 := ⟨by kernel_rfl⟩
instance iFO160_2 : FO Tryz.prog 160 2 5 := ⟨by kernel_rfl⟩
instance iFO160_3 : FO Tryz.prog 160 3 6 := ⟨by kernel_rfl⟩
instance iFO160_4 : FO Tryz.prog 160 4 7 := ⟨by kernel_rfl⟩
instance iFO160_5 : FO Tryz.prog 160 5 8 := ⟨by kernel_rfl⟩
instance iFO160_6 : FO Tryz.prog 160 6 9 := ⟨by kernel_rfl⟩
instance iFO160_7 : FO Tryz.prog 160 7 10 := ⟨by kernel_rfl⟩
instance iFO160_8 : FO Tryz.prog 160 8 11 := ⟨by kernel_rfl⟩
instance iFO160_9 : FO Tryz.prog 160 9 12 := ⟨by kernel_rfl⟩
instance iFO160_10 : FO Tryz.prog 160 10 13 := ⟨by kernel_rfl⟩
instance iFO160_11 : FO Tryz.prog 160 11 14 := ⟨by kernel_rfl⟩
instance iFO163_0 : FO Tryz.prog 163 0 0 := ⟨by kernel_rfl⟩
instance iFO163_1 : FO Tryz.prog 163 1 4 := ⟨by kernel_rfl⟩
instance iFO163_2 : FO Tryz.prog 163 2 5 := ⟨by kernel_rfl⟩
instance iFO163_3 : FO Tryz.prog 163 3 6 := ⟨by kernel_rfl⟩
instance iFO165_0 : FO Tryz.prog 165 0 0 := ⟨by kernel_rfl⟩
instance iFO165_1 : FO Tryz.prog 165 1 4 := ⟨by kernel_rfl⟩
instance iFO165_2 : FO Tryz.prog 165 2 5 := ⟨by kernel_rfl⟩
instance iFO165_3 : FO Tryz.prog 165 3 6 := ⟨by kernel_rfl⟩
instance iFO165_4 : FO Tryz.prog 165 4 7 := ⟨by kernel_rfl⟩
instance iFO165_5 : FO Tryz.prog 165 5 8 := ⟨by kernel_rfl⟩
instance iFO165_6 : FO Tryz.prog 165 6 9 := ⟨by kernel_rfl⟩
instance iFO165_7 : FO Tryz.prog 165 7 10 := ⟨by kernel_rfl⟩
instance iFO169_0 : FO Tryz.prog 169 0 0 := ⟨by kernel_rfl⟩
instance iFO169_1 : FO Tryz.prog 169 1 4 := ⟨by kernel_rfl⟩
instance iFO169_2 : FO Tryz.prog 169 2 5 := ⟨by kernel_rfl⟩
instance iFO169_3 : FO Tryz.prog 169 3 6 := ⟨by kernel_rfl⟩
instance iFO169_4 : FO Tryz.prog 169 4 7 := ⟨by kernel_rfl⟩
instance iFO169_5 : FO Tryz.prog 169 5 8 := ⟨by kernel_rfl⟩
instance iFO169_6 : FO Tryz.prog 169 6 9 := ⟨by kernel_rfl⟩
instance iFO172_0 : FO Tryz.prog 172 0 0 := ⟨by kernel_rfl⟩
instance iFO172_1 : FO Tryz.prog 172 1 4 := ⟨by kernel_rfl⟩
instance iFO172_2 : FO Tryz.prog 172 2 5 := ⟨by kernel_rfl⟩
instance iFO172_3 : FO Tryz.prog 172 3 6 := ⟨by kernel_rfl⟩
instance iFO172_4 : FO Tryz.prog 172 4 7 := ⟨by kernel_rfl⟩
instance iFO172_5 : FO Tryz.prog 172 5 8 := ⟨by kernel_rfl⟩
instance iFO172_6 : FO Tryz.prog 172 6 9 := ⟨by kernel_rfl⟩
instance iFO194_1 : FO Tryz.prog 194 1 1 := ⟨by kernel_rfl⟩
instance iFO194_2 : FO Tryz.prog 194 2 2 := ⟨by kernel_rfl⟩
instance iFO194_3 : FO Tryz.prog 194 3 3 := ⟨by kernel_rfl⟩
instance iFO194_4 : FO Tryz.prog 194 4 4 := ⟨by kernel_rfl⟩
instance iFO194_6 : FO Tryz.prog 194 6 6 := ⟨by kernel_rfl⟩
instance iFO194_7 : FO Tryz.prog 194 7 7 := ⟨by kernel_rfl⟩
instance iFO194_8 : FO Tryz.prog 194 8 8 := ⟨by kernel_rfl⟩
instance iFO196_1 : FO Tryz.prog 196 1 4 := ⟨by kernel_rfl⟩
instance iFO196_2 : FO Tryz.prog 196 2 5 := ⟨by kernel_rfl⟩
instance iFO196_3 : FO Tryz.prog 196 3 6 := ⟨by kernel_rfl⟩
instance iFO196_4 : FO Tryz.prog 196 4 7 := ⟨by kernel_rfl⟩
instance iFO196_5 : FO Tryz.prog 196 5 8 := ⟨by kernel_rfl⟩
instance iFO196_6 : FO Tryz.prog 196 6 9 := ⟨by kernel_rfl⟩
instance iFO196_7 : FO Tryz.prog 196 7 10 := ⟨by kernel_rfl⟩
instance iFO196_8 : FO Tryz.prog 196 8 11 := ⟨by kernel_rfl⟩
instance iFO196_9 : FO Tryz.prog 196 9 12 := ⟨by kernel_rfl⟩
instance iFO196_10 : FO Tryz.prog 196 10 13 := ⟨by kernel_rfl⟩
instance iFO205_0 : FO Tryz.prog 205 0 0 := ⟨by kernel_rfl⟩
instance iFO205_1 : FO Tryz.prog 205 1 4 := ⟨by kernel_rfl⟩
instance iFO205_2 : FO Tryz.prog 205 2 5 := ⟨by kernel_rfl⟩
instance iFO205_3 : FO Tryz.prog 205 3 6 := ⟨by kernel_rfl⟩
instance iFO205_4 : FO Tryz.prog 205 4 7 := ⟨by kernel_rfl⟩
instance iFO205_5 : FO Tryz.prog 205 5 8 := ⟨by kernel_rfl⟩
instance iFO205_6 : FO Tryz.prog 205 6 9 := ⟨by kernel_rfl⟩
instance iFO205_7 : FO Tryz.prog 205 7 10 := ⟨by kernel_rfl⟩
instance iFO205_8 : FO Tryz.prog 205 8 11 := ⟨by kernel_rfl⟩
instance iFO205_9 : FO Tryz.prog 205 9 12 := ⟨by kernel_rfl⟩
instance iFO205_10 : FO Tryz.prog 205 10 15 := ⟨by kernel_rfl⟩
instance iFO205_11 : FO Tryz.prog 205 11 16 := ⟨by kernel_rfl⟩
instance iFO205_12 : FO Tryz.prog 205 12 17 := ⟨by kernel_rfl⟩
instance iFO205_13 : FO Tryz.prog 205 13 18 := ⟨by kernel_rfl⟩
instance iFO205_14 : FO Tryz.prog 205 14 19 := ⟨by kernel_rfl⟩
instance iFO215_0 : FO Tryz.prog 215 0 0 := ⟨by kernel_rfl⟩
instance iFO215_1 : FO Tryz.prog 215 1 4 := ⟨by kernel_rfl⟩
instance iFO215_2 : FO Tryz.prog 215 2 5 := ⟨by kernel_rfl⟩
instance iFO215_3 : FO Tryz.prog 215 3 6 := ⟨by kernel_rfl⟩
instance iFO215_4 : FO Tryz.prog 215 4 7 := ⟨by kernel_rfl⟩
instance iFO215_5 : FO Tryz.prog 215 5 8 := ⟨by kernel_rfl⟩
instance iFO224_0 : FO Tryz.prog 224 0 0 := ⟨by kernel_rfl⟩
instance iFO224_1 : FO Tryz.prog 224 1 1 := ⟨by kernel_rfl⟩
instance iFO226_0 : FO Tryz.prog 226 0 0 := ⟨by kernel_rfl⟩
instance iFO226_1 : FO Tryz.prog 226 1 4 := ⟨by kernel_rfl⟩
instance iFO226_2 : FO Tryz.prog 226 2 5 := ⟨by kernel_rfl⟩
instance iFO226_3 : FO Tryz.prog 226 3 6 := ⟨by kernel_rfl⟩
instance iFO226_4 : FO Tryz.prog 226 4 7 := ⟨by kernel_rfl⟩
instance iFO226_5 : FO Tryz.prog 226 5 8 := ⟨by kernel_rfl⟩
instance iFO226_6 : FO Tryz.prog 226 6 9 := ⟨by kernel_rfl⟩
instance iFO226_7 : FO Tryz.prog 226 7 10 := ⟨by kernel_rfl⟩
instance iFO226_8 : FO Tryz.prog 226 8 11 := ⟨by kernel_rfl⟩
instance iFO226_9 : FO Tryz.prog 226 9 12 := ⟨by kernel_rfl⟩
instance iFO231_0 : FO Tryz.prog 231 0 0 := ⟨by kernel_rfl⟩
instance iFO231_1 : FO Tryz.prog 231 1 4 := ⟨by kernel_rfl⟩
instance iFO231_2 : FO Tryz.prog 231 2 5 := ⟨by kernel_rfl⟩
instance iFO231_3 : FO Tryz.prog 231 3 6 := ⟨by kernel_rfl⟩
instance iFO231_4 : FO Tryz.prog 231 4 7 := ⟨by kernel_rfl⟩
instance iFO231_5 : FO Tryz.prog 231 5 8 := ⟨by kernel_rfl⟩
instance iFO237_0 : FO Tryz.prog 237 0 0 := ⟨by kernel_rfl⟩
instance iFO237_1 : FO Tryz.prog 237 1 1 := ⟨by kernel_rfl⟩
instance iFO237_2 : FO Tryz.prog 237 2 2 := ⟨by kernel_rfl⟩
instance iFO237_3 : FO Tryz.prog 237 3 3 := ⟨by kernel_rfl⟩
instance iFO237_8 : FO Tryz.prog 237 8 8 := ⟨by kernel_rfl⟩
instance iFO239_0 : FO Tryz.prog 239 0 0 := ⟨by kernel_rfl⟩
instance iFO239_1 : FO Tryz.prog 239 1 1 := ⟨by kernel_rfl⟩
instance iFO239_2 : FO Tryz.prog 239 2 2 := ⟨by kernel_rfl⟩
instance iSZ3 : SZ Tryz.prog 3 1 := ⟨by kernel_rfl⟩
instance iSZ4 : SZ Tryz.prog 4 1 := ⟨by kernel_rfl⟩
instance iSZ23 : SZ Tryz.prog 23 4 := ⟨by kernel_rfl⟩
instance iSZ25 : SZ Tryz.prog 25 1 := ⟨by kernel_rfl⟩
instance iSZ27 : SZ Tryz.prog 27 7 := ⟨by kernel_rfl⟩
instance iSZ40 : SZ Tryz.prog 40 1 := ⟨by kernel_rfl⟩
instance iSZ43 : SZ Tryz.prog 43 3 := ⟨by kernel_rfl⟩
instance iSZ52 : SZ Tryz.prog 52 1 := ⟨by kernel_rfl⟩
instance iSZ57 : SZ Tryz.prog 57 5 := ⟨by kernel_rfl⟩
instance iSZ75 : SZ Tryz.prog 75 1 := ⟨by kernel_rfl⟩
instance iSZ83 : SZ Tryz.prog 83 1 := ⟨by kernel_rfl⟩
instance iSZ110 : SZ Tryz.prog 110 4 := ⟨by kernel_rfl⟩
instance iSZ112 : SZ Tryz.prog 112 1 := ⟨by kernel_rfl⟩
instance iSZ113 : SZ Tryz.prog 113 1 := ⟨by kernel_rfl⟩
instance iSZ114 : SZ Tryz.prog 114 1 := ⟨by kernel_rfl⟩
instance iSZ116 : SZ Tryz.prog 116 6 := ⟨by kernel_rfl⟩
instance iSZ127 : SZ Tryz.prog 127 3 := ⟨by kernel_rfl⟩
instance iSZ132 : SZ Tryz.prog 132 1 := ⟨by kernel_rfl⟩
instance iSZ134 : SZ Tryz.prog 134 6 := ⟨by kernel_rfl⟩
instance iSZ136 : SZ Tryz.prog 136 18 := ⟨by kernel_rfl⟩
instance iSZ141 : SZ Tryz.prog 141 1 := ⟨by kernel_rfl⟩
instance iSZ142 : SZ Tryz.prog 142 1 := ⟨by kernel_rfl⟩
instance iSZ143 : SZ Tryz.prog 143 1 := ⟨by kernel_rfl⟩
instance iSZ161 : SZ Tryz.prog 161 1 := ⟨by kernel_rfl⟩
instance iSZ187 : SZ Tryz.prog 187 1 := ⟨by kernel_rfl⟩
instance iSZ189 : SZ Tryz.prog 189 1 := ⟨by kernel_rfl⟩
instance iSZ190 : SZ Tryz.prog 190 1 := ⟨by kernel_rfl⟩
instance iSZ191 : SZ Tryz.prog 191 1 := ⟨by kernel_rfl⟩
instance iSZ192 : SZ Tryz.prog 192 1 := ⟨by kernel_rfl⟩
instance iSZ202 : SZ Tryz.prog 202 1 := ⟨by kernel_rfl⟩
instance iSZ203 : SZ Tryz.prog 203 1 := ⟨by kernel_rfl⟩
instance iSZ224 : SZ Tryz.prog 224 2 := ⟨by kernel_rfl⟩
instance iSZ237 : SZ Tryz.prog 237 9 := ⟨by kernel_rfl⟩
instance iSZ239 : SZ Tryz.prog 239 3 := ⟨by kernel_rfl⟩
instance iUL0 : UL Tryz.prog 0 := UL.mk' Tryz.underlying0 rfl
instance iUL3 : UL Tryz.prog 3 := UL.mk' Tryz.underlying3 rfl
instance iUL4 : UL Tryz.prog 4 := UL.mk' Tryz.underlying4 rfl
instance iUL5 : UL Tryz.prog 5 := UL.mk' Tryz.underlying5 rfl
instance iUL9 : UL Tryz.prog 9 := UL.mk' Tryz.underlying9 rfl
instance iUA23 : UA Tryz.prog 23 4 := UA.mk' Tryz.underlying23 rfl (by kernel_rfl)
instance iUS24 : US Tryz.prog 24 75 := ⟨Tryz.underlying24⟩
instance iUL24 : UL Tryz.prog 24 := UL.mk' Tryz.underlying24 rfl
instance iUS25 : US Tryz.prog 25 3 := ⟨Tryz.underlying25⟩
instance iUL25 : UL Tryz.prog 25 := UL.mk' Tryz.underlying25 rfl
instance iUA27 : UA Tryz.prog 27 7 := UA.mk' Tryz.underlying27 rfl (by kernel_rfl)
instance iUL30 : UL Tryz.prog 30 := UL.mk' Tryz.underlying30 rfl
instance iUL33 : UL Tryz.prog 33 := UL.mk' Tryz.underlying33 rfl
instance iUL37 : UL Tryz.prog 37 := UL.mk' Tryz.underlying37 rfl
instance iUS40 : US Tryz.prog 40 43 := ⟨Tryz.underlying40⟩
instance iUL40 : UL Tryz.prog 40 := UL.mk' Tryz.underlying40 rfl
instance iUA43 : UA Tryz.prog 43 3 := UA.mk' Tryz.underlying43 rfl (by kernel_rfl)
instance iUS51 : US Tryz.prog 51 104 := ⟨Tryz.underlying51⟩
instance iUL51 : UL Tryz.prog 51 := UL.mk' Tryz.underlying51 rfl
instance iUL52 : UL Tryz.prog 52 := UL.mk' Tryz.underlying52 rfl
instance iUA57 : UA Tryz.prog 57 5 := UA.mk' Tryz.underlying57 rfl (by kernel_rfl)
instance iUL70 : UL Tryz.prog 70 := UL.mk' Tryz.underlying70 rfl
instance iUS75 : US Tryz.prog 75 110 := ⟨Tryz.underlying75⟩
instance iUL75 : UL Tryz.prog 75 := UL.mk' Tryz.underlying75 rfl
instance iUS82 : US Tryz.prog 82 116 := ⟨Tryz.underlying82⟩
instance iUL82 : UL Tryz.prog 82 := UL.mk' Tryz.underlying82 rfl
instance iUS83 : US Tryz.prog 83 136 := ⟨Tryz.underlying83⟩
instance iUL83 : UL Tryz.prog 83 := UL.mk' Tryz.underlying83 rfl
instance iUL88 : UL Tryz.prog 88 := UL.mk' Tryz.underlying88 rfl
instance iUA93 : UA Tryz.prog 93 5 := UA.mk' Tryz.underlying93 rfl (by kernel_rfl)
instance iUA95 : UA Tryz.prog 95 11 := UA.mk' Tryz.underlying95 rfl (by kernel_rfl)
instance iUA104 : UA Tryz.prog 104 2 := UA.mk' Tryz.underlying104 rfl (by kernel_rfl)
instance iUL107 : UL Tryz.prog 107 := UL.mk' Tryz.underlying107 rfl
instance iUA110 : UA Tryz.prog 110 4 := UA.mk' Tryz.underlying110 rfl (by kernel_rfl)
instance iUL112 : UL Tryz.prog 112 := UL.mk' Tryz.underlying112 rfl
instance iUL113 : UL Tryz.prog 113 := UL.mk' Tryz.underlying113 rfl
instance iUL114 : UL Tryz.prog 114 := UL.mk' Tryz.underlying114 rfl
instance iUL120 : UL Tryz.prog 120 := UL.mk' Tryz.underlying120 rfl
instance iUL126 : UL Tryz.prog 126 := UL.mk' Tryz.underlying126 rfl
instance iUA127 : UA Tryz.prog 127 3 := UA.mk' Tryz.underlying127 rfl (by kernel_rfl)
instance iUA128 : UA Tryz.prog 128 12 := UA.mk' Tryz.underlying128 rfl (by kernel_rfl)
instance iUS132 : US Tryz.prog 132 174 := ⟨Tryz.underlying132⟩
instance iUL132 : UL Tryz.prog 132 := UL.mk' Tryz.underlying132 rfl
instance iUA134 : UA Tryz.prog 134 6 := UA.mk' Tryz.underlying134 rfl (by kernel_rfl)
instance iUL141 : UL Tryz.prog 141 := UL.mk' Tryz.underlying141 rfl
instance iUL142 : UL Tryz.prog 142 := UL.mk' Tryz.underlying142 rfl
instance iUL143 : UL Tryz.prog 143 := UL.mk' Tryz.underlying143 rfl
instance iUL147 : UL Tryz.prog 147 := UL.mk' Tryz.underlying147 rfl
instance iUL149 : UL Tryz.prog 149 := UL.mk' Tryz.underlying149 rfl
instance iUL157 : UL Tryz.prog 157 := UL.mk' Tryz.underlying157 rfl
instance iUS161 : US Tryz.prog 161 187 := ⟨Tryz.underlying161⟩
instance iUL161 : UL Tryz.prog 161 := UL.mk' Tryz.underlying161 rfl
instance iUL176 : UL Tryz.prog 176 := UL.mk' Tryz.underlying176 rfl
instance iUL177 : UL Tryz.prog 177 := UL.mk' Tryz.underlying177 rfl
instance iUL184 : UL Tryz.prog 184 := UL.mk' Tryz.underlying184 rfl
instance iUL186 : UL Tryz.prog 186 := UL.mk' Tryz.underlying186 rfl
instance iUL187 : UL Tryz.prog 187 := UL.mk' Tryz.underlying187 rfl
instance iUL188 : UL Tryz.prog 188 := UL.mk' Tryz.underlying188 rfl
instance iUL189 : UL Tryz.prog 189 := UL.mk' Tryz.underlying189 rfl
instance iUL190 : UL Tryz.prog 190 := UL.mk' Tryz.underlying190 rfl
instance iUL191 : UL Tryz.prog 191 := UL.mk' Tryz.underlying191 rfl
instance iUL192 : UL Tryz.prog 192 := UL.mk' Tryz.underlying192 rfl
instance iUS202 : US Tryz.prog 202 40 := ⟨Tryz.underlying202⟩
instance iUL202 : UL Tryz.prog 202 := UL.mk' Tryz.underlying202 rfl
instance iUS203 : US Tryz.prog 203 224 := ⟨Tryz.underlying203⟩
instance iUL203 : UL Tryz.prog 203 := UL.mk' Tryz.underlying203 rfl
instance iUL207 : UL Tryz.prog 207 := UL.mk' Tryz.underlying207 rfl
instance iUL211 : UL Tryz.prog 211 := UL.mk' Tryz.underlying211 rfl
instance iUS221 : US Tryz.prog 221 237 := ⟨Tryz.underlying221⟩
instance iUL221 : UL Tryz.prog 221 := UL.mk' Tryz.underlying221 rfl
instance iUL228 : UL Tryz.prog 228 := UL.mk' Tryz.underlying228 rfl
instance iUS235 : US Tryz.prog 235 239 := ⟨Tryz.underlying235⟩
instance iUL235 : UL Tryz.prog 235 := UL.mk' Tryz.underlying235 rfl
instance iUA237 : UA Tryz.prog 237 9 := UA.mk' Tryz.underlying237 rfl (by kernel_rfl)
instance iUA239 : UA Tryz.prog 239 3 := UA.mk' Tryz.underlying239 rfl (by kernel_rfl)
end Go.Proofs.YtbolanigdkgbdaaGreat
namespace Go.Proofs.YtbolanigdkgbdaaGreat
open Go Go.RowKit
set_option linter.unusedSectionVars false
def fs : Fr → Nat → Fr
  | [], _ => []
  | x :: l, m => match m % 2 with
    | 0 => fs l (m / 2)
    | _ => x :: fs l (m / 2)
section
variable [Df] {P : Program} {w0 : World} {n : Nat} {S N H : Hp} {l : Fr} {ops : Array Oper} {C : World → Prop} {K : Act → World → Prop} {r : List (Bool × Nat)} {i : Nat}
theorem fT {fn : Func} {R : Value → Hp → Hp → Prop} {t : ResultVar} {v : Value} (hr : fn.results = #[t]) (hv : ResV P w0 n S N H l t v) (hR : R v [] H) (hd : (Df.ds : List Deferred) = [] := by rfl) : At w0 n S l N H (bodyPost P fn (PostOf w0 S R) .ret) := At.final hr hv (List.nil_sublist _) hR hd
variable {xs : List Operand} {ats : Array TypeId} {ty : TypeId} {pos : String} {af : Array Edge} {gd : Option (Nat × Bool)} {f : FuncId} {vs args : List Value} {S' : Hp}
theorem cP {d : Nat} {R : Value → Hp → Hp → Prop} (ho : ops[i]? = some ⟨some d, .call { callee := .value (.func f), args := xs.toArray, argTypes := ats }, ty, pos, af, gd⟩) (hdn : Nat.blt d n = true) (hg : wantG ops l ⟨some d, .call { callee := .value (.func f), args := xs.toArray, argTypes := ats }, ty, pos, af, gd⟩ = some true)
    (hxs : Evs n l true xs vs) (hargs : [] ++ vs ++ [] = args) (hc : Fn P f args S' [] R) (hS : ∀ e ∈ S', ∀ w, St w0 w S N H → e.holds w)
    (h : ∀ v N' H', R v N' H' → H' = [] ∧ Cl w0 S (N' ++ N) H C ∧ At w0 n S ((d, true, v) :: l) (N' ++ N) H (wpSch P ops C K r)) : At w0 n S l N H (wpSch P ops C K ((false, i) :: r)) := At.callP (fst := []) (cap := []) ho hdn hg Ev.f hxs hargs hc hS h
theorem cM {d : Option Nat} {A B N1 H1 : Hp} {x : Value} (ho : ops[i]? = some ⟨d, .call { callee := .value (.func f), args := xs.toArray, argTypes := ats }, ty, pos, af, gd⟩) (hdn : (match d with | none => true | some d => Nat.blt d n) = true) (hg : wantG ops l ⟨d, .call { callee := .value (.func f), args := xs.toArray, argTypes := ats }, ty, pos, af, gd⟩ = some true)
    (hxs : Evs n l true xs vs) (hargs : [] ++ vs ++ [] = args) (hu : Ups N H A B N1 H1) (hS : Rds (fun w => St w0 w S N H) S') (hc : Fn P f args S' A (IsM x B)) (hk : keys B = keys A) (hSe : Aprt w0 S N H S' A)
    (h : Cl w0 S N1 H1 C ∧ At w0 n S (putO d x l) N1 H1 (wpSch P ops C K r)) : At w0 n S l N H (wpSch P ops C K ((false, i) :: r)) := At.callM (fst := []) (cap := []) ho (by cases d with | none => rfl | some d => exact hdn) hg Ev.f hxs hargs hu hS hc hk hSe h
theorem cX {d : Option Nat} {A T : Hp} {R : Value → Hp → Prop} (ho : ops[i]? = some ⟨d, .call { callee := .value (.func f), args := xs.toArray, argTypes := ats }, ty, pos, af, gd⟩) (hdn : (match d with | none => true | some d => Nat.blt d n) = true) (hg : wantG ops l ⟨d, .call { callee := .value (.func f), args := xs.toArray, argTypes := ats }, ty, pos, af, gd⟩ = some true)
    (hxs : Evs n l true xs vs) (hargs : [] ++ vs ++ [] = args) (hu : Pick N A T) (hS : Rds (fun w => St w0 w S N H) S') (hc : FnX P f args S' A R) (hSe : Aprt w0 S N H S' A)
    (h : ∀ v B, R v B → Cl w0 S (B ++ T) H C ∧ At w0 n S (putO d v l) (B ++ T) H (wpSch P ops C K r)) : At w0 n S l N H (wpSch P ops C K ((false, i) :: r)) := At.callX (fst := []) (cap := []) ho (by cases d with | none => rfl | some d => exact hdn) hg Ev.f hxs hargs hu hS hc hSe h
end
end Go.Proofs.YtbolanigdkgbdaaGreat
namespace Go.Proofs.YtbolanigdkgbdaaGreat
open Go Go.RowKit
set_option linter.unusedVariables false
structure Ar where
  w : List Int
  d0 : Int
  d1 : Int
  d2 : Int
  d3 : Int
  d4 : Int
  k : Int
  at_ : Int
  old : Int
  nw : Int
  ok : Bool
abbrev arC (wv : Value) (a : Ar) : Array Value := #[wv, .int .i64 a.d0, .int .i64 a.d1, .int .i64 a.d2, .int .i64 a.d3, .int .i64 a.d4, .int .i64 a.k, .int .i64 a.at_, .int .i64 a.old, .int .i64 a.nw, .bool a.ok]
abbrev arB (b : Nat) (wv : Value) (a : Ar) : Ent := .blk b (.cells (arC wv a) 95)
abbrev arW (wv : Value) (n : Nat) (a : Ar) : Ent := .row wv 3 1 n (zK.all a.w)
abbrev arR (wv : Value) (n : Nat) (a : Ar) : Ent := .rd wv 1 n (zK.all a.w)
def Ar.hit (a : Ar) (i : Int) : Bool := decide (0 ≤ i) && decide (i < (a.w.length : Int))
theorem Ar.hit_yes {a : Ar} {i : Int} (h : a.hit i = true) : 0 ≤ i ∧ i < a.w.length := by simpa [Ar.hit] using h
def Ar.few (a : Ar) : Prop := (0 ≤ a.d0 ∧ a.d0 ≤ 1000000000) ∧ (0 ≤ a.d1 ∧ a.d1 ≤ 1000000000) ∧ (0 ≤ a.d2 ∧ a.d2 ≤ 1000000000) ∧ (0 ≤ a.d3 ∧ a.d3 ≤ 1000000000) ∧ (0 ≤ a.d4 ∧ a.d4 ≤ 1000000000)
def Ar.note (a : Ar) (k i old nw : Int) (ok : Bool) : Ar := ⟨a.w, a.d0, if k = 1 then a.d1 + 1 else a.d1, if k = 2 then a.d2 + 1 else a.d2, if k = 3 then a.d3 + 1 else a.d3, if k = 4 then a.d4 + 1 else a.d4, k, i, old, nw, ok⟩
def Ar.peek (a : Ar) (i : Int) : Int := if a.hit i = true then gE a.w i else 0
def Ar.poke (a : Ar) (i x : Int) : Ar := if a.hit i = true then ⟨a.w.set i.toNat x, a.d0, a.d1, a.d2, a.d3, a.d4, a.k, a.at_, a.old, a.nw, a.ok⟩ else a
def Ar.acc (a : Ar) (k i : Int) (g : Int → Int) (okf : Int → Bool) : Ar :=
  if a.hit i = true then (a.poke i (g (gE a.w i))).note k i (gE a.w i) (g (gE a.w i)) (okf (gE a.w i) && decide (k = 3)) else a.note k i 0 0 false
def Ar.ran (a : Ar) (i : Int) (okf : Int → Bool) : Bool := if a.hit i = true then okf (gE a.w i) else false
theorem Ar.poke_len (a : Ar) (i x : Int) : (a.poke i x).w.length = a.w.length := by unfold Ar.poke; split <;> simp
theorem Ar.acc_len (a : Ar) (k i : Int) (g : Int → Int) (okf : Int → Bool) : (a.acc k i g okf).w.length = a.w.length := by
  unfold Ar.acc; split
  · exact Ar.poke_len _ _ _
  · rfl
theorem Rds.blks {C : World → Prop} {bks : List (Nat × Obj)} (h : ∀ x ∈ bks, Holds C (.blk x.1 x.2)) : Rds C (bks.map fun x => .blk x.1 x.2) := by
  induction bks with
  | nil => exact .nil
  | cons x bks ih => exact .blk (h x (by simp)) (ih fun y hy => h y (by simp [hy]))
end Go.Proofs.YtbolanigdkgbdaaGreat
