/- The verifier's own engine, ninth part: slices that are made; rows of rows: entries taken out and laid back. -/
import Derived.Test.YtimclnhklaldfaaEngH
import Derived.Laws.OwnMore
namespace Go.Proofs.Ytimclnhklaldfaa
open Go Go.RowKit
set_option linter.unusedSectionVars false
variable [Df]
set_option linter.unusedVariables false
variable {α : Type}
theorem gE_map {β : Type} [Inhabited α] [Inhabited β] (f : α → β) (hf : f default = default) (l : List α) (j : Int) : gE (l.map f) j = f (gE l j) := by
  unfold gE
  rw [List.getD_eq_getElem?_getD, List.getD_eq_getElem?_getD, List.getElem?_map]
  cases l[j.toNat]? with
  | none => exact hf.symm
  | some x => rfl
theorem gE_replicate [Inhabited α] {n : Nat} {z : α} {j : Int} (h : 0 ≤ j ∧ j < n) : gE (List.replicate n z) j = z := by
  unfold gE
  rw [List.getD_eq_getElem?_getD, List.getElem?_replicate, if_pos (by omega)]; rfl
/-- What a made slice holds. -/
theorem Ek.made [Inhabited α] (k : Ek α) (z : α) {zc : Array Value} (hz : zc = (k.enc z).toArray) (h0 : 0 < k.sz) (n : Nat) : (madeCells zc (n * k.sz)).toList = k.all (List.replicate n z) := by
  have hs : zc.size = k.sz := by rw [hz]; simp [k.len]
  apply List.ext_getElem?
  intro j
  by_cases hj : j < n * k.sz
  · have hi : j / k.sz < n := by rw [Nat.div_lt_iff_lt_mul h0]; exact hj
    have hq : j % k.sz < (k.enc z).length := by rw [k.len]; exact Nat.mod_lt _ h0
    have h1 := Ek.all_get k (List.replicate n z) (j := ((j / k.sz : Nat) : Int)) (j % k.sz) (u := (k.enc z)[j % k.sz]'hq) (by rw [gE_replicate ⟨Int.natCast_nonneg _, Int.ofNat_lt.2 hi⟩]; exact List.getElem?_eq_getElem hq) ⟨Int.natCast_nonneg _, by rw [List.length_replicate]; exact Int.ofNat_lt.2 hi⟩
    rw [Int.toNat_natCast, show j / k.sz * k.sz + j % k.sz = j from by rw [Nat.mul_comm]; exact Nat.div_add_mod j k.sz] at h1
    rw [h1]
    simp only [madeCells, Array.toList_map, Array.toList_range, List.getElem?_map, List.getElem?_range hj, Option.map_some, hs]
    have hlt : j % k.sz < zc.size := by rw [hs]; exact Nat.mod_lt _ h0
    rw [getElem!_pos zc _ hlt]
    subst hz; simp
  · rw [List.getElem?_eq_none (by simp [madeCells]; omega), List.getElem?_eq_none (by rw [k.all_length, List.length_replicate]; omega)]

section
variable {P : Program} {w0 : World} {n : Nat} {S N H : Hp} {l : Fr} {ops : Array Oper} {C : World → Prop} {K : Act → World → Prop} {r : List (Bool × Nat)} {i : Nat}
/-- make([]E, c, c). -/
theorem At.makeSl [Inhabited α] {d : Nat} {x y : Operand} {t ty : TypeId} {pos : String} {af : Array Edge} {gd : Option (Nat × Bool)} {e by' c : Nat} {k : Ek α} {z : α} {zv : Value}
    (ho : ops[i]? = some ⟨some d, .makeSlice t x y, ty, pos, af, gd⟩) (hdn : Nat.blt d n = true) (hg : wantG ops l ⟨some d, .makeSlice t x y, ty, pos, af, gd⟩ = some true)
    (ht : P.underlying t = some (.slice e)) (he : elemTab P e = some (k.sz, by')) (hz : (P.info? e).bind (·.zero) = some zv) (hzc : zv.cells = (k.enc z).toArray)
    (hx : Ev n l true x (.int .i64 c)) (hy : Ev n l true y (.int .i64 c)) (hb : by' * c ≤ 281474976710656 ∧ c * k.sz ≤ 16777216)
    (h : ∀ v', Cl w0 S (rowE k e v' (List.replicate c z) :: N) H C ∧ At w0 n S ((d, true, v') :: l) (rowE k e v' (List.replicate c z) :: N) H (wpSch P ops C K r)) : At w0 n S l N H (wpSch P ops C K ((false, i) :: r)) :=
  At.eW (d := some d) ho hg fun a w ha hw => by
    obtain ⟨inf, z0, h2, h3, h4, h5, h6, h7⟩ := elemTab_info he
    rw [h2] at hz
    have hzz : z0 = zv := by simpa [h3] using hz
    subst hzz
    have hm : c ≤ maxLen := by
      have : c * 1 ≤ c * k.sz := Nat.mul_le_mul_left _ h7
      simp only [maxLen]; omega
    obtain ⟨w', hrun, ho', hgr⟩ := run_makeSlice_full (P := P) w 0 t e inf z0 k.sz ht h2 h3 h4 .i64 .i64 c hb.2 (by rw [h5]; exact hb.1) hm (Nat.zero_le _)
    unfold Oper.wp
    have hrun' : (execOp a.eval ⟨some d, .makeSlice t x y, ty, pos, af, gd⟩).run P w = .ok (.value (.slice (some ⟨w.heap.size, 0, none⟩) c c)) w' := by
      simp [execOp, hx rfl a ha, hy rfl a ha, hrun]
    rw [hrun', Oper.upon_value]
    rw [k.made z hzc h7 c] at ho'
    have hrow : (rowE k e (.slice (some ⟨w.heap.size, 0, none⟩) c c) (List.replicate c z)).holds w' := by
      show w'.ownsRow 0 e k.sz _ (List.replicate c z).length _
      rw [List.length_replicate]; exact ho'
    have := hw.addN (w' := w') (e' := rowE k e (.slice (some ⟨w.heap.size, 0, none⟩) c c) (List.replicate c z)) (fun b hb' => by simp [Ent.key, Value.ownBlock] at hb'; omega) hrow hgr.os hgr.tape hgr.output hgr.size (fun b hb' => hgr.block b hb' (by simp))
    exact ⟨(h _).1 _ this, (h _).2 _ _ (ha.put (by simpa using hdn) rfl) this⟩
end

/-! ### Rows of rows -/
theorem cells_one {v : Value} (h : v.oneCell' = true) : v.cells = #[v] := by cases v <;> first | rfl | cases h
section
set_option linter.unusedSectionVars false
variable [Inhabited α] {P : Program} {w0 : World} {n : Nat} {S N H : Hp} {l : Fr} {X : Act → World → Prop} {k : Ek α} {E : TypeId} {gs : List (SV × List α)}
theorem gE_mem' {β : Type} [Inhabited β] {l : List β} {j : Int} (h : 0 ≤ j ∧ j < l.length) : gE l j ∈ l := by
  unfold gE; rw [List.getD_eq_getElem?_getD, List.getElem?_eq_getElem (by omega)]; exact List.getElem_mem _
theorem segS {j : Int} (hs : (seg k E gs).Sublist N) (hj : 0 ≤ j ∧ j < gs.length) : RdIn (fun w => St w0 w S N H) (gE gs j).1.1 k.sz (gE gs j).2.length (k.all (gE gs j).2) :=
  wS (E := E) (List.mem_append_right _ (List.mem_append_left _ (hs.subset (List.mem_map.2 ⟨gE gs j, gE_mem' hj, rfl⟩))))
theorem segK {L : Hp} {j : Int} (hs : (seg k E gs).Sublist L) (hj : 0 ≤ j ∧ j < gs.length) : RdIn (Kept L) (gE gs j).1.1 k.sz (gE gs j).2.length (k.all (gE gs j).2) :=
  wK (E := E) (hs.subset (List.mem_map.2 ⟨gE gs j, gE_mem' hj, rfl⟩))
theorem segKN {j : Int} (hs : (seg k E gs).Sublist N) (hj : 0 ≤ j ∧ j < gs.length) : RdIn (Kept (S ++ (N ++ H))) (gE gs j).1.1 k.sz (gE gs j).2.length (k.all (gE gs j).2) :=
  segK (((hs.trans (List.sublist_append_left _ _)).trans (List.sublist_append_right _ _))) hj
theorem segGet {j : Int} (hj : 0 ≤ j ∧ j < gs.length) : (sK.all (gs.map (·.1)))[j.toNat * 1]? = some (gE gs j).1.1 := by
  have h := Ek.get0 (k := sK) (l := gs.map (·.1)) (j := j) (u := (gE (gs.map fun x : SV × List α => x.1) j).1) rfl (by simpa using hj)
  rw [gE_map (fun x : SV × List α => x.1) rfl] at h
  exact h
theorem At.segIn {A : Hp} {i : Nat} {v : SV} {xs : List α} (hi : i < gs.length) (h : At w0 n S l (A ++ seg k E (gs.set i (v, xs))) H X) : At w0 n S l (rowE k E v.1 xs :: (A ++ seg k E gs)) H X := by
  refine At.fewer (N1 := rowE k E v.1 xs :: (A ++ seg k E (gs.eraseIdx i))) ?_ ?_ h
  · exact List.Sublist.cons_cons _ ((List.Sublist.refl A).append ((List.eraseIdx_sublist gs i).map _))
  · have := (perm_set gs i (v, xs) hi).map (fun x => rowE k E x.1.1 x.2)
    exact (List.perm_middle.symm).trans (this.append_left A)
theorem At.segNew {A : Hp} {v : SV} {xs : List α} (h : At w0 n S l (A ++ seg k E (gs ++ [(v, xs)])) H X) : At w0 n S l (rowE k E v.1 xs :: (A ++ seg k E gs)) H X := by
  refine At.perm ?_ h
  have : (rowE k E v.1 xs :: seg k E gs).Perm (seg k E (gs ++ [(v, xs)])) := by
    simp only [seg, List.map_append, List.map_cons, List.map_nil]; exact (List.perm_append_singleton _ _).symm
  exact (List.perm_middle.symm).trans (this.append_left A)
theorem perm_erase {β : Type} [Inhabited β] : ∀ (l : List β) (i : Nat), i < l.length → l.Perm (l.getD i default :: l.eraseIdx i)
  | [], i, h => absurd h (Nat.not_lt_zero _)
  | y :: l, 0, _ => by simp
  | y :: l, i + 1, h => by
    have := perm_erase l i (by simpa using h)
    simp only [List.eraseIdx_cons_succ, List.getD_cons_succ]
    exact (this.cons y).trans (List.Perm.swap _ _ _)
theorem At.segOut {A : Hp} {j : Int} (hj : 0 ≤ j ∧ j < gs.length) (h : At w0 n S l (rowE k E (gE gs j).1.1 (gE gs j).2 :: (A ++ seg k E (gs.eraseIdx j.toNat))) H X) : At w0 n S l (A ++ seg k E gs) H X := by
  refine At.perm ?_ h
  have := (perm_erase gs j.toNat (by omega)).map (fun x => rowE k E x.1.1 x.2)
  exact (this.append_left A).trans List.perm_middle
theorem At.segBack {A : Hp} {i : Nat} {v : SV} {xs : List α} (hi : i < gs.length) (h : At w0 n S l (A ++ seg k E (gs.set i (v, xs))) H X) : At w0 n S l (rowE k E v.1 xs :: (A ++ seg k E (gs.eraseIdx i))) H X := by
  refine At.perm ?_ h
  have := (perm_set gs i (v, xs) hi).map (fun x => rowE k E x.1.1 x.2)
  exact (List.perm_middle.symm).trans (this.append_left A)
/-- A row of empty rows. -/
theorem At.segNil {A : Hp} (m : Nat) (h : At w0 n S l (A ++ seg k E (List.replicate m (⟨.slice none 0 0, rfl⟩, []))) H X) : At w0 n S l A H X := by
  have : ∀ m, ∀ w, St w0 w S A H → St w0 w S (A ++ seg k E (List.replicate m (⟨.slice none 0 0, rfl⟩, []))) H := fun m => by
    induction m with
    | zero => intro w hw; simpa [seg] using hw
    | succ m ih =>
      intro w hw
      have h1 := (ih w hw).nilRow k E
      refine h1.perm ?_
      simp only [List.replicate_succ, seg, List.map_cons]
      exact List.perm_middle.symm
  exact fun a w ha hw => h a w ha (this m w hw)
end
section
set_option linter.unusedSectionVars false
variable [Inhabited α] {P : Program} {w0 : World} {n : Nat} {S N H : Hp} {l : Fr} {ops : Array Oper} {C : World → Prop} {K : Act → World → Prop} {r : List (Bool × Nat)} {i : Nat}
/-- A slice is stored into the outer row. -/
theorem At.stSeg {p x : Operand} {T ty : TypeId} {pos : String} {af : Array Edge} {gd : Option (Nat × Bool)} {Eo : TypeId} {g cap : Nat} {j : Int} {gs : List (SV × List α)} {xs : List α} {v' : Value} {N' : Hp} (ho : ops[i]? = some ⟨none, .store T p x, ty, pos, af, gd⟩)
    (hg : wantG ops l ⟨none, .store T p x, ty, pos, af, gd⟩ = some true) (hs : (P.info? T).map (·.size) = some 1) (hp0 : Ev n l true p (elemPtr (.slice (some ⟨g, 0, none⟩) (gs.map (·.1)).length cap) (j.toNat * 1))) (hx : Ev n l true x v') (h1 : v'.oneCell' = true)
    (hj : 0 ≤ j ∧ j < gs.length)
    (hu : UpL N (rowE sK Eo (.slice (some ⟨g, 0, none⟩) (gs.map (·.1)).length cap) (gs.map (·.1))) (rowE sK Eo (.slice (some ⟨g, 0, none⟩) (gs.map (·.1)).length cap) ((gs.set j.toNat (⟨v', h1⟩, xs)).map (·.1))) N')
    (h : Cl w0 S N' H C ∧ At w0 n S l N' H (wpSch P ops C K r)) : At w0 n S l N H (wpSch P ops C K ((false, i) :: r)) := by
  have e : (rowE sK Eo (.slice (some ⟨g, 0, none⟩) (gs.map (·.1)).length cap) ((gs.set j.toNat (⟨v', h1⟩, xs)).map (·.1))) = .row (.slice (some ⟨g, 0, none⟩) (gs.map (·.1)).length cap) Eo 1 (gs.map (·.1)).length (sK.all ((gs.map (·.1)).set j.toNat ⟨v', h1⟩)) := by
    rw [rowE, List.map_set, List.length_set]
  rw [e] at hu
  exact At.stRow (k := sK) (xs := gs.map (·.1)) (y := ⟨v', h1⟩) ho hg hs hp0 hx (cells_one h1) (.n hu) rfl (by simpa using hj) h
end
/-- What a nest reads as, out of rows that are owned. -/
theorem Rds.ofNest {C : World → Prop} {k : Ek α} {gs : List (Value × List α)} {V : Value} (h0 : RdIn C V 1 gs.length (gs.map (·.1))) (h : ∀ x ∈ gs, RdIn C x.1 k.sz x.2.length (k.all x.2)) : Rds C (nest k V gs) := by
  refine Rds.cons h0 ?_
  clear h0
  induction gs with
  | nil => exact .nil
  | cons x gs ih => exact Rds.cons (h x (by simp)) (ih fun y hy => h y (by simp [hy]))
/-- Rows owned as rows that are read. -/
abbrev asN (gs : List (SV × List α)) : List (Value × List α) := gs.map fun x => (x.1.1, x.2)
theorem asN_fst (gs : List (SV × List α)) : (asN gs).map (·.1) = sK.all (gs.map (·.1)) := by
  induction gs with
  | nil => rfl
  | cons x gs ih => rw [List.map_cons, Ek.all_cons, ← ih]; rfl
theorem Rds.ofSeg {C : World → Prop} {k : Ek α} {Eo E : TypeId} {gs : List (SV × List α)} {V : Value} (h0 : RdIn C V 1 (gs.map (·.1)).length (sK.all (gs.map (·.1)))) (h : ∀ x ∈ gs, RdIn C x.1.1 k.sz x.2.length (k.all x.2)) : Rds C (nest k V (asN gs)) := by
  refine Rds.ofNest ?_ ?_
  · rw [asN_fst, List.length_map]; rwa [List.length_map] at h0
  · intro x hx
    obtain ⟨y, hy, rfl⟩ := List.mem_map.1 hx
    exact h y hy
theorem Rds.append {C : World → Prop} {A B : Hp} (ha : Rds C A) (hb : Rds C B) : Rds C (A ++ B) := by
  induction ha with
  | nil => exact hb
  | cons h _ ih => exact .cons h ih
  | blk h _ ih => exact .blk h ih
/-- A row of which one element was laid anew, in other words. -/
theorem At.reSet {w0 : World} {n : Nat} {S N H : Hp} {l : Fr} {N' : Hp} {X : Act → World → Prop} {k : Ek α} {E : TypeId} {v : Value} {m : Nat} {xs xs' : List α} (hu : UpL N (.row v E k.sz m (k.all xs)) (rowE k E v xs') N') (he : xs = xs') (hm : m = xs.length) (h : At w0 n S l N' H X) : At w0 n S l N H X := by
  subst he hm
  obtain ⟨a, b, rfl, rfl⟩ := hu.form
  exact h
end Go.Proofs.Ytimclnhklaldfaa
