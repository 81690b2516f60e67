/- The verifier's own engine, twelfth part: maps: lookups of two values, a range over a map; nil. -/
import Derived.Test.YtimclnhklaldfaaEngK
import Derived.Maps.RangeRun
import Derived.WideLaws
namespace Go.Proofs.Ytimclnhklaldfaa
open Go Go.RowKit
set_option linter.unusedSectionVars false
variable [Df]
open Go.ChangeMaps (setBlock)
set_option linter.unusedVariables false
section
variable {κ α : Type} [DecidableEq κ]
variable {P : Program} {n : Nat} {l : Fr} {C : World → Prop}
theorem R.lookup2 {g : Bool} {d : Option Tmp} {T kt et ty : TypeId} {pos : String} {af : Array Edge} {gd : Option (Nat × Bool)} {m x : Operand} {kf : κ → Value} {vf : α → Value} {b : Nat} {ml : List (κ × α)} {k : κ} {z : Value} (hT : P.underlying T = some (.map kt et)) (hk : KeyOk P kt kf) (hz : (P.info? et).bind (·.zero) = some z)
    (hm : Ev n l g m (.map (some b))) (hx : Ev n l g x (kf k)) (hE : ∀ w, C w → (mapE kf vf b ml).holds w) : RunsC P n l C g ⟨d, .lookup T m x true, ty, pos, af, gd⟩ (.tuple #[agetV vf z ml k, .bool (aget ml k).isSome]) := fun hg a w ha hw => by
  have hb : w.heap[b]? = some (.map (mEs kf vf 0 ml).toArray ml.length) := hE w hw
  have hf := hk.find _ vf k ml w
  have hzv : (zeroValue et).run P w = .ok z w := by
    cases hi : P.info? et with
    | none => rw [hi] at hz; cases hz
    | some inf => rw [hi] at hz; simp at hz; simp [zeroValue, typeInfo, hi, hz]
  unfold agetV aget
  cases hi : aidx ml k 0 with
  | none =>
    rw [hi] at hf
    simp only [Option.map_none] at hf
    simp [execOp, hm.eq hg ha, hx.eq hg ha, Instr.lookup, run_underlying hT, MapKept.run_getObj_map hb, hk.chk, hf, hzv]
  | some jv =>
    rw [hi] at hf
    simp only [Option.map_some] at hf
    simp [execOp, hm.eq hg ha, hx.eq hg ha, Instr.lookup, run_underlying hT, MapKept.run_getObj_map hb, hk.chk, hf]
theorem R.eqlNilP {g : Bool} {d : Option Tmp} {x : Operand} {T U ty : TypeId} {pos : String} {af : Array Edge} {gd : Option (Nat × Bool)} {p : Option Addr} (hT : P.underlying T = some (.pointer (P.pointee T))) (hx : Ev n l g x (.pointer p)) :
    RunsC P n l C g ⟨d, .binOp .eql T x (.const (.pointer none)) U, ty, pos, af, gd⟩ (.bool p.isNone) := fun hg a w ha _ => by
  have e : a.eval (.const (.pointer none)) = .pointer none := rfl
  have h1 : (eqGuard .eql T x (.const (.pointer none)) (.pointer p) (.pointer none)) = pure () := rfl
  have h2 := run_eql_pointer_nil (P := P) w T p hT
  simp [execOp, hx.eq hg ha, e, h1, h2]
theorem R.neqNilI {g : Bool} {d : Option Tmp} {x : Operand} {T U ty : TypeId} {pos : String} {af : Array Edge} {gd : Option (Nat × Bool)} (hT : P.underlying T = some (.interface (P.methodsAt T))) (hx : Ev n l g x .nilIface) :
    RunsC P n l C g ⟨d, .binOp .neq T x (.const .nilIface) U, ty, pos, af, gd⟩ (.bool false) := fun hg a w ha _ => by
  have e : a.eval (.const .nilIface) = .nilIface := rfl
  have h1 : (eqGuard .neq T x (.const .nilIface) .nilIface .nilIface).run P w = .ok () w := by
    simp only [eqGuard]
    cases x <;> simp
  have h2 : (binOp .neq T .nilIface .nilIface).run P w = .ok (.bool false) w := by
    show (do pure (Value.bool (!(← Op.equal T .nilIface .nilIface))) : Sem Value).run P w = _
    simp [run_equal_nil_nil w T hT]
  simp [execOp, hx.eq hg ha, e, h1, h2]
/-- An element of an array's value. -/
theorem R.indexAgg {g : Bool} {d : Option Tmp} {x y : Operand} {T E len m ty : TypeId} {pos : String} {af : Array Edge} {gd : Option (Nat × Bool)} {k : IntKind} {j : Int} {cs : Array Value} {v : Value} (hT : P.underlying T = some (.array len E)) (hs : (P.info? E).map (·.size) = some m) (hx : Ev n l g x (.agg cs)) (hy : Ev n l g y (.int k j)) (hj : 0 ≤ j ∧ j < len)
    (hv : ∀ w, (part E cs (j.toNat * m)).run P w = .ok v w) : RunsC P n l C g ⟨d, .index T x y, ty, pos, af, gd⟩ v := fun hg a w ha _ => by
  simp [execOp, hx.eq hg ha, hy.eq hg ha, Instr.index, run_underlying hT, asIntOf, run_sizeOf hs, hj.1, hj.2, hv]
end

theorem run_part_arr {P : Program} {E len e m : Nat} {cs : Array Value} {off : Nat} {w : World} (hT : P.underlying E = some (.array len e)) (hs : (P.info? E).map (·.size) = some m) : (part E cs off).run P w = .ok (.agg (cs.extract off (off + m))) w := by
  simp [part, isAgg, run_underlying hT, run_sizeOf hs]
/-! ### A range over a map -/
/-- Where a range over a map stands: these entries have come. -/
abbrev itE {κ α : Type} (r b : Nat) (ml : List (κ × α)) (seen : List Nat) : Ent := .blk r (.mapIter (some b) ml.length seen.toArray ml.length)
section
variable {κ α : Type}
variable {P : Program} {w0 : World} {n : Nat} {S N H : Hp} {l : Fr} {ops : Array Oper} {C : World → Prop} {K : Act → World → Prop} {r : List (Bool × Nat)} {i : Nat}
theorem mEs_born' (kf : κ → Value) (vf : α → Value) : ∀ (l : List (κ × α)) (b : Nat), (mEs kf vf b l).map (·.born) = List.range' b l.length
  | [], _ => rfl
  | x :: r, b => by simp only [mEs, List.map_cons, List.length_cons, List.range'_succ, mEs_born' kf vf r (b + 1)]
theorem mEs_lt' {kf : κ → Value} {vf : α → Value} {l : List (κ × α)} : ∀ x ∈ (mEs kf vf 0 l).toArray.toList, x.born < l.length := fun x hx => by
  have : x.born ∈ (mEs kf vf 0 l).map (·.born) := List.mem_map.2 ⟨x, by simpa using hx, rfl⟩
  rw [mEs_born'] at this
  have := List.mem_range'_1.1 this
  omega
theorem mEs_nodup {kf : κ → Value} {vf : α → Value} {l : List (κ × α)} : ((mEs kf vf 0 l).toArray.toList.map (·.born)).Nodup := by
  rw [mEs_born']
  exact List.nodup_range'
theorem At.rangeMap {d : Nat} {T kt et ty : TypeId} {pos : String} {af : Array Edge} {gd : Option (Nat × Bool)} {x : Operand} {kf : κ → Value} {vf : α → Value} {b : Nat} {ml : List (κ × α)}
    (ho : ops[i]? = some ⟨some d, .range T x, ty, pos, af, gd⟩) (hdn : Nat.blt d n = true) (hg : wantG ops l ⟨some d, .range T x, ty, pos, af, gd⟩ = some true) (hT : P.underlying T = some (.map kt et)) (hx : Ev n l true x (.map (some b))) (hm : mapE kf vf b ml ∈ S ++ (N ++ H))
    (h : ∀ q, w0.heap.size ≤ q → Cl w0 S (itE q b ml [] :: N) H C ∧ At w0 n S ((d, true, .pointer (some ⟨q, 0, none⟩)) :: l) (itE q b ml [] :: N) H (wpSch P ops C K r)) : At w0 n S l N H (wpSch P ops C K ((false, i) :: r)) :=
  At.eW (d := some d) ho hg fun a w ha hw => by
    have hb : w.heap[b]? = some (.map (mEs kf vf 0 ml).toArray ml.length) := Holds.st hm w hw
    unfold Oper.wp
    have hrun : (execOp a.eval ⟨some d, .range T x, ty, pos, af, gd⟩).run P w = .ok (.value (.pointer (some ⟨w.heap.size, 0, none⟩))) (w.alloc (.mapIter (some b) ml.length #[] ml.length)) := by
      simp [execOp, hx rfl a ha, run_range_map w T kt et b _ _ hT hb]
    rw [hrun, Oper.upon_value]
    have := hw.alloc (.mapIter (some b) ml.length #[] ml.length)
    obtain ⟨h1, h2⟩ := h w.heap.size hw.size
    exact ⟨h1 _ this, h2 _ _ (ha.put (by simpa using hdn) rfl) this⟩
theorem At.mapNext [Inhabited κ] [Inhabited α] {d : Nat} {ty : TypeId} {pos : String} {af : Array Edge} {gd : Option (Nat × Bool)} {x : Operand} {kf : κ → Value} {vf : α → Value} {b q : Nat} {ml : List (κ × α)} {seen : List Nat} {N1 : Nat → Hp}
    (ho : ops[i]? = some ⟨some d, .next x false, ty, pos, af, gd⟩) (hdn : Nat.blt d n = true) (hg : wantG ops l ⟨some d, .next x false, ty, pos, af, gd⟩ = some true) (hx : Ev n l true x (.pointer (some ⟨q, 0, none⟩))) (hm : mapE kf vf b ml ∈ S ++ (N ++ H)) (hu : ∀ j, UpL N (itE q b ml seen) (itE q b ml (seen ++ [j])) (N1 j))
    (h0 : (∀ j, j < ml.length → j ∈ seen) → Cl w0 S N H C ∧ At w0 n S ((d, true, .tuple #[.bool false]) :: l) N H (wpSch P ops C K r))
    (h1 : ∀ j, j < ml.length → j ∉ seen → Cl w0 S (N1 j) H C ∧ At w0 n S ((d, true, .tuple #[.bool true, kf (gE ml (j : Int)).1, vf (gE ml (j : Int)).2]) :: l) (N1 j) H (wpSch P ops C K r)) : At w0 n S l N H (wpSch P ops C K ((false, i) :: r)) :=
  At.eW (d := some d) ho hg fun a w ha hw => by
    have hb : w.heap[b]? = some (.map (mEs kf vf 0 ml).toArray ml.length) := Holds.st hm w hw
    have hq : w.heap[q]? = some (.mapIter (some b) ml.length seen.toArray ml.length) := hw.has _ (List.mem_append_left _ (hu 0).mem)
    unfold Oper.wp
    rcases run_next_at (P := P) w ty q b ml.length ml.length seen.toArray _ _ hq hb mEs_lt' (Nat.le_refl _) with ⟨h2, hrun⟩ | ⟨e, he, w1, hw1, hrun⟩
    · have hrun' : (execOp a.eval ⟨some d, .next x false, ty, pos, af, gd⟩).run P w = .ok (.value (.tuple #[.bool false])) w := by
        simp [execOp, hx rfl a ha, hrun]
      rw [hrun', Oper.upon_value]
      have hall : ∀ j, j < ml.length → j ∈ seen := fun j hj => by
        have h3 : (mEs kf vf 0 ml)[j]? = some { key := kf (ml[j]).1, val := vf (ml[j]).2, born := 0 + j } := by rw [mEs_get, List.getElem?_eq_getElem hj]; rfl
        have h4 := all_seen _ _ h2 _ (show _ ∈ (mEs kf vf 0 ml).toArray.toList from by simpa using List.mem_of_getElem? h3)
        simpa using h4
      obtain ⟨h3, h4⟩ := h0 hall
      exact ⟨h3 _ hw, h4 _ _ (ha.put (by simpa using hdn) rfl) hw⟩
    · obtain ⟨he1, he2⟩ := mem_left he
      obtain ⟨j, hj, hje⟩ := List.mem_iff_getElem.1 (show e ∈ mEs kf vf 0 ml by simpa using he1)
      have hget : (mEs kf vf 0 ml)[j]? = some e := by rw [List.getElem?_eq_getElem hj, hje]
      rw [mEs_get] at hget
      have hjl : j < ml.length := by
        rcases Nat.lt_or_ge j ml.length with h | h
        · exact h
        · rw [List.getElem?_eq_none h] at hget; cases hget
      rw [List.getElem?_eq_getElem hjl] at hget
      simp only [Option.map_some, Option.some.injEq] at hget
      subst hget
      have hns : j ∉ seen := fun hm2 => by
        simp at he2
        exact he2 hm2
      have hg2 : gE ml (j : Int) = ml[j] := by simp [gE, hjl]
      have hrun' : (execOp a.eval ⟨some d, .next x false, ty, pos, af, gd⟩).run P w = .ok (.value (.tuple #[.bool true, kf (ml[j]).1, vf (ml[j]).2])) (setBlock w1 q (.mapIter (some b) ml.length (seen.toArray.push (0 + j)) ml.length)) := by
        simp [execOp, hx rfl a ha, hrun]
      rw [hrun', Oper.upon_value, ← hg2]
      have hw1' : St w0 w1 S N H := by
        rcases hw1 with rfl | rfl
        · exact hw
        · exact hw.drew
      have hq1 : w1.heap[q]? = some (.mapIter (some b) ml.length seen.toArray ml.length) := by rcases hw1 with rfl | rfl <;> exact hq
      have hlt : q < w1.heap.size := (Array.getElem?_eq_some_iff.1 hq1).1
      have := hw1'.upd (w' := setBlock w1 q (.mapIter (some b) ml.length (seen.toArray.push (0 + j)) ml.length)) (.n (hu j)) rfl (show (itE q b ml (seen ++ [j])).holds _ by simp [Ent.holds, setBlock, hlt]) rfl rfl rfl (by simp [setBlock]) fun k _ hk => by
        have : q ≠ k := fun e => hk (by rw [e]; rfl)
        simp [setBlock, this]
      obtain ⟨h3, h4⟩ := h1 j hjl hns
      exact ⟨h3 _ this, h4 _ _ (ha.put (by simpa using hdn) rfl) this⟩
theorem R.entry {g : Bool} {d : Option Tmp} {ty : TypeId} {pos : String} {af : Array Edge} {gd : Option (Nat × Bool)} {x : Operand} {kf : κ → Value} {vf : α → Value} {b q j : Nat} [Inhabited κ] [Inhabited α] {ml : List (κ × α)} {seen : List Nat} (hx : Ev n l g x (.pointer (some ⟨q, 0, none⟩)))
    (hE : ∀ w, C w → (mapE kf vf b ml).holds w) (hI : ∀ w, C w → (itE q b ml (seen ++ [j])).holds w) (hj : j < ml.length) : RunsC P n l C g ⟨d, .entry x, ty, pos, af, gd⟩ (.tuple #[kf (gE ml (j : Int)).1, vf (gE ml (j : Int)).2]) := fun hg a w ha hw => by
  have hb : w.heap[b]? = some (.map (mEs kf vf 0 ml).toArray ml.length) := hE w hw
  have hq : w.heap[q]? = some (.mapIter (some b) ml.length (seen.toArray.push j) ml.length) := by
    have := hI w hw
    simpa [Ent.holds] using this
  have h3 : (mEs kf vf 0 ml)[j]? = some { key := kf (ml[j]).1, val := vf (ml[j]).2, born := 0 + j } := by rw [mEs_get, List.getElem?_eq_getElem hj]; rfl
  have hr := run_entry_at (P := P) w q b ml.length seen.toArray (mEs kf vf 0 ml).toArray ml.length { key := kf (ml[j]).1, val := vf (ml[j]).2, born := 0 + j } (by simpa using hq) hb (by simpa using List.mem_of_getElem? h3) mEs_nodup
  have hg2 : gE ml (j : Int) = ml[j] := by simp [gE, hj]
  rw [hg2]
  simp [execOp, hx.eq hg ha, hr]
end
end Go.Proofs.Ytimclnhklaldfaa
