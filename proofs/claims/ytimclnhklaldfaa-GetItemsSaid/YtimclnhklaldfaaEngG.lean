/- The verifier's own engine, seventh part: maps. -/
import Derived.Test.YtimclnhklaldfaaEngF
import Derived.MapKept
import Derived.DeepKeys3
import Derived.WideKeyRuns
namespace Go.Proofs.Ytimclnhklaldfaa
open Go Go.RowKit
set_option linter.unusedSectionVars false
variable [Df]
set_option linter.unusedVariables false
variable {κ α : Type}

/-- A map's entries, none of which was ever taken out. -/
def mEs (kf : κ → Value) (vf : α → Value) : Nat → List (κ × α) → List MapEntry
  | _, [] => []
  | b, x :: r => { key := kf x.1, val := vf x.2, born := b } :: mEs kf vf (b + 1) r
abbrev mapE (kf : κ → Value) (vf : α → Value) (b : Nat) (l : List (κ × α)) : Ent := .blk b (.map (mEs kf vf 0 l).toArray l.length)
theorem mEs_length (kf : κ → Value) (vf : α → Value) : ∀ (l : List (κ × α)) (b : Nat), (mEs kf vf b l).length = l.length
  | [], _ => rfl
  | x :: r, b => by simp [mEs, mEs_length kf vf r]
theorem mEs_get (kf : κ → Value) (vf : α → Value) : ∀ (l : List (κ × α)) (b i : Nat), (mEs kf vf b l)[i]? = (l[i]?).map fun x => { key := kf x.1, val := vf x.2, born := b + i }
  | [], _, _ => by simp [mEs]
  | x :: r, b, 0 => by simp [mEs]
  | x :: r, b, i + 1 => by
    simp only [mEs, List.getElem?_cons_succ, mEs_get kf vf r (b + 1) i]
    congr 1
    funext x
    congr 1
    omega
theorem mEs_append (kf : κ → Value) (vf : α → Value) (x : κ × α) : ∀ (l : List (κ × α)) (b : Nat), mEs kf vf b (l ++ [x]) = mEs kf vf b l ++ [{ key := kf x.1, val := vf x.2, born := b + l.length }]
  | [], b => by simp [mEs]
  | y :: r, b => by
    simp only [List.cons_append, mEs, mEs_append kf vf x r (b + 1), List.length_cons]
    congr 4
    omega
theorem mEs_modify (kf : κ → Value) (vf : α → Value) (l : List (κ × α)) (j : Nat) (k : κ) (v : α) :
    (mEs kf vf 0 l).toArray.modify j (fun e => { e with key := kf k, val := vf v }) = (mEs kf vf 0 (l.set j (k, v))).toArray := by
  apply Array.ext_getElem?
  intro i
  simp only [Array.getElem?_modify, List.getElem?_toArray, mEs_get, List.getElem?_set]
  by_cases h : j = i
  · subst h
    simp only [if_true]
    cases hl : l[j]? with
    | none => have := List.getElem?_eq_none_iff.1 hl; simp; omega
    | some x => have := (List.getElem?_eq_some_iff.1 hl).1; simp [this]
  · simp [h]

section
variable {P : Program} {w0 : World} {n : Nat} {S N H : Hp} {l : Fr} {ops : Array Oper} {C : World → Prop} {K : Act → World → Prop} {r : List (Bool × Nat)} {i : Nat}
theorem At.makeMap {d : Nat} {T ty : TypeId} {pos : String} {af : Array Edge} {gd : Option (Nat × Bool)} (kf : κ → Value) (vf : α → Value) (ho : ops[i]? = some ⟨some d, .makeMap T none, ty, pos, af, gd⟩) (hdn : Nat.blt d n = true)
    (hg : wantG ops l ⟨some d, .makeMap T none, ty, pos, af, gd⟩ = some true)
    (h : ∀ b, w0.heap.size ≤ b → Cl w0 S (mapE kf vf b [] :: N) H C ∧ At w0 n S ((d, true, .map (some b)) :: l) (mapE kf vf b [] :: N) H (wpSch P ops C K r)) :
    At w0 n S l N H (wpSch P ops C K ((false, i) :: r)) :=
  At.eW (d := some d) ho hg fun a w ha hw => by
    unfold Oper.wp
    have hrun : (execOp a.eval ⟨some d, .makeMap T none, ty, pos, af, gd⟩).run P w = .ok (.value (.map (some w.heap.size))) (w.alloc (.map #[] 0)) := by
      simp [execOp, Instr.makeMap]
    rw [hrun, Oper.upon_value]
    obtain ⟨h1, h2⟩ := h w.heap.size hw.size
    have := hw.alloc (.map #[] 0)
    exact ⟨h1 _ this, h2 _ _ (ha.put (by simpa using hdn) rfl) this⟩

end

variable [DecidableEq κ]
/-- Where a key stands. -/
def aidx : List (κ × α) → κ → Nat → Option (Nat × α)
  | [], _, _ => none
  | x :: r, k, i => if k = x.1 then some (i, x.2) else aidx r k (i + 1)
def aget (l : List (κ × α)) (k : κ) : Option α := (aidx l k 0).map (·.2)
def aput (l : List (κ × α)) (k : κ) (v : α) : List (κ × α) := match aidx l k 0 with
  | some (j, _) => l.set j (k, v)
  | none => l ++ [(k, v)]
theorem aidx_spec : ∀ (l : List (κ × α)) (k : κ) (i j : Nat) (v : α), aidx l k i = some (j, v) → i ≤ j ∧ l[j - i]? = some (k, v)
  | [], _, _, _, _, h => by simp [aidx] at h
  | x :: r, k, i, j, v, h => by
    simp only [aidx] at h
    split at h
    · rename_i e
      simp only [Option.some.injEq, Prod.mk.injEq] at h
      obtain ⟨rfl, rfl⟩ := h
      simp [e]
    · obtain ⟨h1, h2⟩ := aidx_spec r k (i + 1) j v h
      refine ⟨by omega, ?_⟩
      rw [show j - i = (j - (i + 1)) + 1 from by omega]
      simpa using h2

/-- Keys of this type are sought by what they are. -/
structure KeyAsk (P : Program) (T : TypeId) (kf : κ → Value) : Prop where
  chk : ∀ em k w, (Instr.checkKey em 10000 T (kf k)).run P w = .ok () w
  eql : ∀ a b w, (Op.equal T (kf a) (kf b)).run P w = .ok (decide (a = b)) w
  bits : ∀ k, Instr.sameBits 10000 (kf k) (kf k) = true
  wide : (match P.underlying T with | some (.array _ _) | some (.struct _) => true | _ => false) = true
theorem run_find {P : Program} {w : World} {T : TypeId} {kf : κ → Value} (vf : α → Value) (hk : KeyAsk P T kf) (k : κ) : ∀ (l : List (κ × α)) (b i : Nat), (Instr.findAsking T (kf k) (mEs kf vf b l) i).run P w = .ok ((aidx l k i).map fun x => (x.1, vf x.2)) w
  | [], b, i => by simp [mEs, Instr.findAsking, aidx]
  | x :: r, b, i => by
    simp only [mEs, Instr.findAsking, Sem.run_bind, hk.eql, Result.andThen_ok, aidx]
    by_cases h : k = x.1
    · simp [h]
    · simp [h, run_find vf hk k r]
theorem run_findK {P : Program} {w : World} {T : TypeId} {kf : κ → Value} (vf : α → Value) (hk : KeyAsk P T kf) (k : κ) (l : List (κ × α)) : (Instr.findKey T (kf k) (mEs kf vf 0 l)).run P w = .ok ((aidx l k 0).map fun x => (x.1, vf x.2)) w :=
  (run_findKey_eq w hk.wide (kf k) _).trans (run_find vf hk k l 0 0)

/-- Keys of a map, whatever their kind. -/
structure KeyOk (P : Program) (T : TypeId) (kf : κ → Value) : Prop where
  chk : ∀ em k w, (Instr.checkKey em 10000 T (kf k)).run P w = .ok () w
  find : ∀ (α : Type) (vf : α → Value) (k : κ) (l : List (κ × α)) (w : World), (Instr.findKey T (kf k) (mEs kf vf 0 l)).run P w = .ok ((aidx l k 0).map fun x => (x.1, vf x.2)) w
  bits : ∀ k, Instr.sameBits 10000 (kf k) (kf k) = true
theorem KeyAsk.ok {P : Program} {T : TypeId} {kf : κ → Value} (h : KeyAsk P T kf) : KeyOk P T kf := ⟨h.chk, fun α vf k l w => run_findK vf h k l, h.bits⟩
theorem findNow_eq {d : TypeDesc} {kf : κ → Value} (vf : α → Value) (hs : ∀ a b : κ, Instr.sameNow d (kf a) (kf b) = some (decide (a = b))) (k : κ) : ∀ (l : List (κ × α)) (b i : Nat), Instr.findNow d (kf k) (mEs kf vf b l) i = some ((aidx l k i).map fun x => (x.1, vf x.2))
  | [], b, i => by simp [mEs, Instr.findNow, aidx]
  | x :: r, b, i => by
    simp only [mEs, Instr.findNow, hs, aidx]
    by_cases h : k = x.1
    · simp [h]
    · simp only [h, decide_false, if_false]
      exact findNow_eq vf hs k r (b + 1) (i + 1)
theorem keyOk_now {P : Program} {T : TypeId} {d : TypeDesc} {kf : κ → Value} (hT : P.underlying T = some d) (hc : ∀ em k w, (Instr.checkKey em 10000 T (kf k)).run P w = .ok () w) (hs : ∀ a b : κ, Instr.sameNow d (kf a) (kf b) = some (decide (a = b))) (hb : ∀ k, Instr.sameBits 10000 (kf k) (kf k) = true) : KeyOk P T kf :=
  ⟨hc, fun α vf k l w => MapKept.run_findKey hT (findNow_eq vf hs k l 0 0), hb⟩
abbrev kfZ : Int → Value := fun k => .int .i64 k
abbrev kfB : Bool → Value := fun k => .bool k
theorem keyOk_int {P : Program} {T : TypeId} (hT : P.underlying T = some (.int .i64)) : KeyOk P T kfZ :=
  keyOk_now hT (fun em k w => by rw [show (10000 : Nat) = 9999 + 1 from rfl, Instr.checkKey]; simp [run_underlying hT]) (fun a b => by simp [Instr.sameNow]; rfl) (fun k => by simp [Instr.sameBits])
theorem keyOk_bool {P : Program} {T : TypeId} (hT : P.underlying T = some .bool) : KeyOk P T kfB :=
  keyOk_now hT (fun em k w => by rw [show (10000 : Nat) = 9999 + 1 from rfl, Instr.checkKey]; simp [run_underlying hT]) (fun a b => by cases a <;> cases b <;> rfl) (fun k => by simp [Instr.sameBits])

section
variable {P : Program} {w0 : World} {n : Nat} {S N H : Hp} {l : Fr} {ops : Array Oper} {C : World → Prop} {K : Act → World → Prop} {r : List (Bool × Nat)} {i : Nat}

theorem At.mapUp {T kt et ty : TypeId} {pos : String} {af : Array Edge} {gd : Option (Nat × Bool)} {m x y : Operand} {kf : κ → Value} {vf : α → Value} {b : Nat} {ml : List (κ × α)} {k : κ} {v : α} {N' H' : Hp}
    (ho : ops[i]? = some ⟨none, .mapUpdate T m x y, ty, pos, af, gd⟩) (hg : wantG ops l ⟨none, .mapUpdate T m x y, ty, pos, af, gd⟩ = some true) (hT : P.underlying T = some (.map kt et)) (hk : KeyOk P kt kf)
    (hm : Ev n l true m (.map (some b))) (hx : Ev n l true x (kf k)) (hy : Ev n l true y (vf v)) (hu : Up N H (mapE kf vf b ml) (mapE kf vf b (aput ml k v)) N' H')
    (h : Cl w0 S N' H' C ∧ At w0 n S l N' H' (wpSch P ops C K r)) : At w0 n S l N H (wpSch P ops C K ((false, i) :: r)) :=
  At.eW (d := none) ho hg fun a w ha hw => by
    have hmem : mapE kf vf b ml ∈ N ++ H := by cases hu with | n hl => exact List.mem_append_left _ hl.mem | h hl => exact List.mem_append_right _ hl.mem
    have hb : w.heap[b]? = some (.map (mEs kf vf 0 ml).toArray ml.length) := hw.has _ hmem
    have hlt : b < w.heap.size := (Array.getElem?_eq_some_iff.1 hb).1
    have hrun : (execOp a.eval ⟨none, .mapUpdate T m x y, ty, pos, af, gd⟩).run P w = .ok .skip { w with heap := w.heap.setIfInBounds b (.map (mEs kf vf 0 (aput ml k v)).toArray (aput ml k v).length) } := by
      have hf := hk.find _ vf k ml w
      have hupd : (Instr.mapUpdate T (.map (some b)) (kf k) (vf v)).run P w = .ok () { w with heap := w.heap.setIfInBounds b (.map (mEs kf vf 0 (aput ml k v)).toArray (aput ml k v).length) } := by
        unfold aput
        cases hi : aidx ml k 0 with
        | none =>
          rw [hi] at hf
          simp only [Option.map_none] at hf
          have e1 : (mEs kf vf 0 (ml ++ [(k, v)])).toArray = (mEs kf vf 0 ml).toArray.push { key := kf k, val := vf v, born := ml.length } := by
            rw [mEs_append]; simp
          simp [Instr.mapUpdate, run_underlying hT, MapKept.run_getObj_map hb, hk.chk, hf, MapKept.run_setObj_map _ hb, Result.andThen, e1]
        | some jv =>
          obtain ⟨j, u⟩ := jv
          rw [hi] at hf
          simp only [Option.map_some] at hf
          obtain ⟨h1, h2⟩ := aidx_spec ml k 0 j u hi
          simp only [Nat.sub_zero] at h2
          have e1 : (mEs kf vf 0 ml)[j]? = some { key := kf k, val := vf u, born := 0 + j } := by rw [mEs_get, h2]; rfl
          have e2 := mEs_modify kf vf ml j k v
          simp at e2
          have e3 : (Instr.keyThatStays (kf k) (kf k)).run P w = .ok (kf k) w := by simp [Instr.keyThatStays, hk.bits]
          simp [Instr.mapUpdate, run_underlying hT, MapKept.run_getObj_map hb, hk.chk, hf, MapKept.run_setObj_map _ hb, Result.andThen, e1, e3, e2]
      simp [execOp, hm rfl a ha, hx rfl a ha, hy rfl a ha, hupd]
    unfold Oper.wp
    rw [hrun, Oper.upon_skip]
    have := hw.upd (w' := { w with heap := w.heap.setIfInBounds b (.map (mEs kf vf 0 (aput ml k v)).toArray (aput ml k v).length) }) hu rfl (show (Ent.blk b (.map (mEs kf vf 0 (aput ml k v)).toArray (aput ml k v).length)).holds _ from by simp [Ent.holds, hlt]) rfl rfl rfl (by simp) fun q _ hq => by
      have : b ≠ q := fun e => hq (by rw [e]; rfl)
      simp [this]
    exact ⟨h.1 _ this, h.2 _ _ ha this⟩

/-- What a map tells of a key. -/
def agetV (vf : α → Value) (z : Value) (l : List (κ × α)) (k : κ) : Value := match aget l k with
  | some v => vf v
  | none => z
theorem R.lookup {g : Bool} {d : Option Tmp} {T kt et ty : TypeId} {pos : String} {af : Array Edge} {gd : Option (Nat × Bool)} {m x : Operand} {kf : κ → Value} {vf : α → Value} {b : Nat} {ml : List (κ × α)} {k : κ} {z : Value} (hT : P.underlying T = some (.map kt et)) (hk : KeyOk P kt kf) (hz : (P.info? et).bind (·.zero) = some z)
    (hm : Ev n l g m (.map (some b))) (hx : Ev n l g x (kf k)) (hE : ∀ w, C w → (mapE kf vf b ml).holds w) : RunsC P n l C g ⟨d, .lookup T m x false, ty, pos, af, gd⟩ (agetV vf z ml k) := fun hg a w ha hw => by
  have hb : w.heap[b]? = some (.map (mEs kf vf 0 ml).toArray ml.length) := hE w hw
  have hf := hk.find _ vf k ml w
  have hzv : (zeroValue et).run P w = .ok z w := by
    cases hi : P.info? et with
    | none => rw [hi] at hz; cases hz
    | some inf => rw [hi] at hz; simp at hz; simp [zeroValue, typeInfo, hi, hz]
  unfold agetV aget
  cases hi : aidx ml k 0 with
  | none =>
    rw [hi] at hf
    simp only [Option.map_none] at hf
    simp [execOp, hm.eq hg ha, hx.eq hg ha, Instr.lookup, run_underlying hT, MapKept.run_getObj_map hb, hk.chk, hf, hzv]
  | some jv =>
    rw [hi] at hf
    simp only [Option.map_some] at hf
    simp [execOp, hm.eq hg ha, hx.eq hg ha, Instr.lookup, run_underlying hT, MapKept.run_getObj_map hb, hk.chk, hf]
end

/-! ### Flat structs as keys -/
theorem run_chkFields {P : Program} {em : Bool} {n : Nat} : ∀ (fs : List Field) (ks : List Bool) (xs px : List Value) (r : Bool) (w : World), flatKs P px.length fs = some ks → eqL ks xs xs = some r →
    (do
      for f in fs do
        if f.name ≠ "_" then Instr.checkKey em (n + 1) f.type (← part f.type (px ++ xs).toArray f.offset) : Sem Unit).run P w = .ok () w
  | [], ks, xs, px, r, w, hk, he => by simp
  | f :: fs, ks, xs, px, r, w, hk, he => by
    simp only [flatKs] at hk
    split at hk
    · rename_i hc
      simp only [ne_eq, Bool.and_eq_true, decide_eq_true_eq, beq_iff_eq] at hc
      obtain ⟨hn, ho⟩ := hc
      split at hk
      · rename_i k r' hT hr'
        injection hk with hk; subst hk
        match xs, he with
        | .int k1 a :: xs, he =>
          simp only [eqL, if_true, Option.map_eq_some_iff] at he
          obtain ⟨r2, he2, rfl⟩ := he
          have h1 := run_part (w := w) hT rfl (xs := (px ++ .int k1 a :: xs).toArray) (i := f.offset) (v := .int k1 a) (by simp [ho])
          have h3 : (Instr.checkKey em (n + 1) f.type (.int k1 a)).run P w = .ok () w := by simp [Instr.checkKey, run_underlying hT]
          have ih := run_chkFields (em := em) (n := n) fs r' xs (px ++ [.int k1 a]) r2 w (by simpa using hr') he2
          simp only [List.append_assoc, List.singleton_append, Sem.run_bind, ne_eq, Sem.run_pure] at ih
          simp only [List.forIn_cons, ne_eq, hn, not_false_eq_true, if_true, Sem.run_bind, h1, h3, Result.andThen_ok, Sem.run_pure]
          exact ih
      · rename_i r' hT hr'
        injection hk with hk; subst hk
        match xs, he with
        | .bool a :: xs, he =>
          simp only [eqL, Option.map_eq_some_iff] at he
          obtain ⟨r2, he2, rfl⟩ := he
          have h1 := run_part (w := w) hT rfl (xs := (px ++ .bool a :: xs).toArray) (i := f.offset) (v := .bool a) (by simp [ho])
          have h3 : (Instr.checkKey em (n + 1) f.type (.bool a)).run P w = .ok () w := by simp [Instr.checkKey, run_underlying hT]
          have ih := run_chkFields (em := em) (n := n) fs r' xs (px ++ [.bool a]) r2 w (by simpa using hr') he2
          simp only [List.append_assoc, List.singleton_append, Sem.run_bind, ne_eq, Sem.run_pure] at ih
          simp only [List.forIn_cons, ne_eq, hn, not_false_eq_true, if_true, Sem.run_bind, h1, h3, Result.andThen_ok, Sem.run_pure]
          exact ih
      · cases hk
    · cases hk
theorem keyOk_flat {P : Program} {T : TypeId} {ks : List Bool} (ke : κ → List Value) (hq : flatQ P T = some ks) (he : ∀ a b, eqL ks (ke a) (ke b) = some (decide (a = b))) (hb : ∀ k, Instr.sameBits 10000 (.agg (ke k).toArray) (.agg (ke k).toArray) = true) : KeyOk P T (fun k => .agg (ke k).toArray) := by
  have hq' := hq
  unfold flatQ at hq'
  split at hq'
  · rename_i fs hfs
    split at hq'
    · refine KeyAsk.ok ⟨fun em k w => ?_, fun a b w => ?_, hb, by rw [hfs]⟩
      · have h1 := run_chkFields (em := em) (n := 9998) fs.toList ks (ke k) [] _ w hq' (he k k)
        rw [show (10000 : Nat) = 9998 + 1 + 1 from rfl, Instr.checkKey]
        simp only [Sem.run_bind, run_underlying hfs, Result.andThen_ok]
        rw [← Array.forIn_toList]
        simp at h1 ⊢
        rw [h1]; rfl
      · exact (run_flat (w := w) hq (he a b)).2
    · cases hq'
  · cases hq'
/-- Two numbers as a key. -/
def k2 (k : Int × Int) : List Value := [.int .i64 k.1, .int .i64 k.2]
theorem keyOk_k2 {P : Program} {T : TypeId} (hq : flatQ P T = some [true, true]) : KeyOk P T (fun k : Int × Int => .agg (k2 k).toArray) :=
  keyOk_flat k2 hq (fun a b => by
    show some ((a.1 == b.1) && ((a.2 == b.2) && true)) = _
    congr 1
    rw [Bool.eq_iff_iff]; simp [Prod.ext_iff]) (fun k => by simp [k2, Instr.sameBits])

/-! ### Slices by their form -/
section
variable {P : Program} {w0 : World} {n : Nat} {S N H : Hp} {l : Fr} {C : World → Prop}
theorem At.rowForm2 {X : Act → World → Prop} {v : Value} {E : TypeId} {sz m : Nat} {xs : List Value} (hm : Ent.row v E sz m xs ∈ S ++ (N ++ H)) (h0 : 0 < m) (h : ∀ g cap, v = .slice (some ⟨g, 0, none⟩) m cap → m ≤ cap → At w0 n S l N H X) : At w0 n S l N H X := fun a w ha hw => by
  have := Holds.st hm w hw
  obtain ⟨_, ⟨_, rfl⟩ | ⟨g, cap, cur, hv, _, _, hc, _⟩⟩ := this
  · exact absurd h0 (Nat.lt_irrefl _)
  · exact h g cap hv hc a w ha hw
theorem R.sliceHi {g0 : Bool} {d : Option Tmp} {x o : Operand} {T ty : TypeId} {pos : String} {af : Array Edge} {gd : Option (Nat × Bool)} {e sz m hi g cap : Nat} (hT : P.underlying T = some (.slice e)) (hs : (P.info? e).map (·.size) = some sz)
    (hx : Ev n l g0 x (.slice (some ⟨g, 0, none⟩) m cap)) (hh : Ev n l g0 o (.int .i64 hi)) (hb : g0 = true → hi ≤ cap) : RunsC P n l C g0 ⟨d, .slice T x none (some o) none, ty, pos, af, gd⟩ (.slice (some ⟨g, 0, none⟩) hi cap) := fun hg a w ha _ => by
  have h2 := hb hg
  by_cases hc : cap = 0
  · simp [execOp, hx.eq hg ha, hh.eq hg ha, Instr.sliceAt, Instr.slice, run_underlying hT, Instr.sliceBounds, Instr.sliceBound, asIntOf, run_sizeOf hs, hc]
    omega
  · simp [execOp, hx.eq hg ha, hh.eq hg ha, Instr.sliceAt, Instr.slice, run_underlying hT, Instr.sliceBounds, Instr.sliceBound, asIntOf, run_sizeOf hs, h2, hc, add_addr]
end

/-- Cells of a chunk. -/
structure Cel where
  state : Int
  key : Int
  data : Int
instance : Inhabited Cel := ⟨⟨0, 0, 0⟩⟩
theorem Cel.ext' {a b : Cel} (h1 : a.state = b.state) (h2 : a.key = b.key) (h3 : a.data = b.data) : a = b := by cases a; cases b; simp_all
instance : DecidableEq Cel := fun a b => if h : a.state = b.state ∧ a.key = b.key ∧ a.data = b.data then isTrue (Cel.ext' h.1 h.2.1 h.2.2) else isFalse fun e => h (by subst e; exact ⟨rfl, rfl, rfl⟩)
abbrev cellK : Ek Cel := ⟨fun x => [.int .i64 x.state, .int .i64 x.key, .int .i64 x.data], 3, fun _ => rfl, fun _ v hv => by
  simp at hv; rcases hv with rfl | rfl | rfl <;> rfl⟩
theorem cellK_eqb {x y : Cel} : ((x.state == y.state) && ((x.key == y.key) && ((x.data == y.data) && true))) = decide (x = y) := by
  rw [Bool.eq_iff_iff]; simp; exact ⟨fun ⟨h1, h2, h3⟩ => Cel.ext' h1 h2 h3, fun e => by subst e; exact ⟨rfl, rfl, rfl⟩⟩

/-- Twice a number. -/
theorem R.shl1 {P : Program} {n : Nat} {l : Fr} {C : World → Prop} {g : Bool} {d : Option Tmp} {x : Operand} {T U : TypeId} {ty : TypeId} {pos : String} {af : Array Edge} {gd : Option (Nat × Bool)} {k' : IntKind} {a : Int} (hx : Ev n l g x (.int .i64 a)) (hb : g = true → -4611686018427387904 ≤ a ∧ a ≤ 4611686018427387903) :
    RunsC P n l C g ⟨d, .binOp .shl T x (.const (.int k' 1)) U, ty, pos, af, gd⟩ (.int .i64 (a * 2)) := fun hg A w ha _ => by
  have e : A.eval (.const (.int k' 1)) = .int k' 1 := rfl
  obtain ⟨h3, h4⟩ := hb hg
  have h5 : IntKind.i64.wrap (a * 2) = a * 2 := IntWalk.i64_in _ ⟨by omega, by omega⟩
  have h1 : min (1 : Int).toNat IntKind.i64.bits = 1 := by decide
  simp only [execOp, hx.eq hg ha, e]
  simp [eqGuard, binOp, Op.shift]
  have h6 : min 1 IntKind.i64.bits = 1 := by decide
  rw [h6]; simpa using h5
end Go.Proofs.Ytimclnhklaldfaa
