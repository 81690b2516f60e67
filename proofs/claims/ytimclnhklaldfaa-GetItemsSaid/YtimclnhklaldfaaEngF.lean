/- The verifier's own engine, sixth part: regions whose later stores change what earlier loads read; stores into rows; calls through function values; slices against nil. -/
import Derived.Test.YtimclnhklaldfaaEngE
import Derived.Laws.Cover3
namespace Go.Proofs.Ytimclnhklaldfaa
open Go Go.RowKit
set_option linter.unusedSectionVars false
variable [Df]

section
variable {P : Program} {ops : Array Oper} {Q : Exit → Act → World → Prop} {md : Region.Mode} {D : Nat → World → Prop}
/-- Whatever order is picked from here on, and behind operation j the world is as it was, or D j holds. -/
def wpAnyG (P : Program) (md : Region.Mode) (ops : Array Oper) (Q : Exit → Act → World → Prop) (D : Nat → World → Prop) : Nat → Array Bool → Act → World → Prop
  | 0, listed, a, w => Region.ready md ops listed = [] ∧ Q .normal a w
  | fuel + 1, listed, a, w =>
    (Region.ready md ops listed = [] → Q .normal a w) ∧
    ∀ i ∈ Region.ready md ops listed, wpOp P ops Q i (fun a' w' => (w' = w ∨ D i w') ∧ wpAnyG P md ops Q D fuel (listed.setIfInBounds i true) a' w') a w
theorem wpAny_of_G : ∀ (fuel : Nat) (listed : Array Bool) (a : Act) (w : World), wpAnyG P md ops Q D fuel listed a w → wpAny P md ops Q fuel listed a w
  | 0, _, _, _, h => h
  | fuel + 1, _, _, _, h => ⟨h.1, fun i hi => wpOp_mono (fun a' w' h' => wpAny_of_G fuel _ a' w' h'.2) (h.2 i hi)⟩
theorem wpAnyG_first {i : Nat} {oi : Oper} {v : Value} {C : World → Prop} (hi : ops[i]? = some oi) (hsel : ∀ (j : Nat) (o : Oper) cs b, ops[j]? = some o → o.op ≠ .select cs b)
    (hQ : ∀ c a w, Q (.panic c) (a.put oi.dst v) w → Q (.panic c) a w) :
    ∀ (fuel : Nat) (listed : Array Bool) (a : Act) (w : World),
      (∀ j oj, ops[j]? = some oj → j ≠ i → listed.getD j true = false → (∀ e ∈ oj.after, Region.binds md e = true → e.on ≠ i) → oi.apart ops oj = true ∧ ∀ w, D j w → C w) →
      i ∈ Region.ready md ops listed → YieldsIf P ops C oi v a → C w →
      wpAnyG P md ops Q D fuel (listed.setIfInBounds i true) (a.put oi.dst v) w → wpAnyG P md ops Q D (fuel + 1) listed a w := by
  intro fuel
  induction fuel with
  | zero =>
    intro listed a w _ hr hy hS H
    refine ⟨fun h => (by rw [h] at hr; cases hr), fun j hj => ?_⟩
    by_cases hji : j = i
    · subst hji; exact hy.wpOp hi hS ⟨.inl rfl, H⟩
    · have := ready_mono hj hji
      rw [H.1] at this
      cases this
  | succ fuel ih =>
    intro listed a w hfree hr hy hS H
    refine ⟨fun h => (by rw [h] at hr; cases hr), fun j hj => ?_⟩
    by_cases hji : j = i
    · subst hji; exact hy.wpOp hi hS ⟨.inl rfl, H⟩
    · have h1 := H.2 j (ready_mono hj hji)
      obtain ⟨hjun, oj, hoj, hall⟩ := mem_ready.1 hj
      have hnot : ∀ e ∈ oj.after, Region.binds md e = true → e.on ≠ i := fun e he hb heq => by
        have h1 := hall e he hb
        have h0 := (mem_ready.1 hr).1
        rw [heq] at h1
        rcases Nat.lt_or_ge i listed.size with h' | h'
        · simp [h'] at h0 h1; rw [h0] at h1; cases h1
        · simp [Array.getElem?_eq_none h'] at h1
      obtain ⟨hap, hDj⟩ := hfree j oj hoj hji hjun hnot
      have h2 := wpOp_putIf hoj hap (fun cs b => hsel i oi cs b hi) (fun cs b => hsel j oj cs b hoj) hQ hy h1
      have hfree' : ∀ k ok, ops[k]? = some ok → k ≠ i → (listed.setIfInBounds j true).getD k true = false →
          (∀ e ∈ ok.after, Region.binds md e = true → e.on ≠ i) → oi.apart ops ok = true ∧ ∀ w, D k w → C w := fun k ok hk hki hun hno => by
        refine hfree k ok hk hki ?_ hno
        by_cases hjk : j = k
        · subst hjk; exact hjun
        · rw [getD_set_ne true hjk] at hun; exact hun
      refine wpOp_mono (fun a' w' h3 => ⟨h3.2.1, ih (listed.setIfInBounds j true) a' w' hfree' (ready_mono hr (Ne.symm hji)) h3.1 (h3.2.1.elim (fun e => e ▸ hS) (hDj _)) ?_⟩) h2
      rw [Array.setIfInBounds_comm _ _ hji]
      exact h3.2.2

/-- Does each late operation that is open wait for i? -/
def waitsB (md : Region.Mode) (ops : Array Oper) (late : List Nat) (listed : Array Bool) (i : Nat) : Bool :=
  late.all fun j => listed.getD j true || match ops[j]? with
    | some oj => oj.after.any (fun e => Region.binds md e && e.on == i)
    | none => true
/-- Behind a late operation C2 holds, behind any other one C1. -/
def lateD (late : List Nat) (C1 C2 : World → Prop) (j : Nat) (w : World) : Prop := if late.contains j then C2 w else C1 w

def schTo1 (md : Region.Mode) (ops : Array Oper) (late : List Nat) : List (Bool × Nat) → Array Bool → Option (Array Bool)
  | [], listed => some listed
  | (true, i) :: r, listed => if (Region.ready md ops listed).contains i && Region.free md ops listed i && waitsB md ops late listed i then schTo1 md ops late r (listed.setIfInBounds i true) else none
  | (false, i) :: r, listed => if Region.ready md ops listed == [i] && !late.contains i then schTo1 md ops late r (listed.setIfInBounds i true) else none
def schTo2 (md : Region.Mode) (ops : Array Oper) (late : List Nat) : List (Bool × Nat) → Array Bool → Option (Array Bool)
  | [], listed => some listed
  | (true, i) :: r, listed => if (Region.ready md ops listed).contains i && Region.free md ops listed i then schTo2 md ops late r (listed.setIfInBounds i true) else none
  | (false, i) :: r, listed => if Region.ready md ops listed == [i] && late.contains i then schTo2 md ops late r (listed.setIfInBounds i true) else none

theorem wpSch_to2 {C1 C2 : World → Prop} {K : Act → World → Prop} {late : List Nat} (h12 : ∀ w, C1 w → C2 w) (hs : Region.noSelect ops = true) : ∀ (steps : List (Bool × Nat)) (listed listed' : Array Bool) (a : Act) (w : World), C2 w → schTo2 md ops late steps listed = some listed' → Region.ready md ops listed' = [] →
    wpSch P ops C2 K steps a w → wpAnyG P md ops (NoQ K) (lateD late C1 C2) steps.length listed a w
  | [], listed, listed', a, w, hC, hk, hend, h => by
    injection hk with hk; subst hk
    exact ⟨hend, h⟩
  | (true, i) :: r, listed, listed', a, w, hC, hk, hend, h => by
    simp only [schTo2] at hk
    split at hk
    · rename_i hc
      simp only [Bool.and_eq_true] at hc
      obtain ⟨o, v, ho, hy, hC, h⟩ := h
      refine wpAnyG_first (C := C2) ho (Region.noSelect_spec hs) (fun _ _ _ h => h.elim) _ listed a w (fun j oj hj hji hun hno => ⟨Region.free_spec ho hc.2 j oj hj hji hun hno, fun w hw => ?_⟩) (by simpa using hc.1) hy hC
        (wpSch_to2 h12 hs r _ _ _ _ hC hk hend h)
      simp only [lateD] at hw
      split at hw
      · exact hw
      · exact h12 _ hw
    · cases hk
  | (false, i) :: r, listed, listed', a, w, hC, hk, hend, h => by
    simp only [schTo2] at hk
    split at hk
    · rename_i hc
      simp only [Bool.and_eq_true] at hc
      have hr : Region.ready md ops listed = [i] := by simpa using hc.1
      refine ⟨fun h0 => absurd (hr ▸ h0) (by simp), fun j hj => ?_⟩
      rw [hr] at hj
      have : j = i := by simpa using hj
      subst this
      exact wpOp_mono (fun a' w' h' => ⟨.inr (by simp only [lateD, hc.2, if_true]; exact h'.1), wpSch_to2 h12 hs r _ _ _ _ h'.1 hk hend h'.2⟩) (wpOp_QF h)
    · cases hk
theorem wpSch_to1 {C1 C2 : World → Prop} {K : Act → World → Prop} {late : List Nat} (h12 : ∀ w, C1 w → C2 w) (hs : Region.noSelect ops = true) (s2 : List (Bool × Nat)) (listed' listed2 : Array Bool) (hk2 : schTo2 md ops late s2 listed' = some listed2) (hend : Region.ready md ops listed2 = []) :
    ∀ (steps : List (Bool × Nat)) (listed : Array Bool) (a : Act) (w : World), C1 w → schTo1 md ops late steps listed = some listed' →
    wpSch P ops C1 (fun a w => C2 w ∧ wpSch P ops C2 K s2 a w) steps a w → wpAnyG P md ops (NoQ K) (lateD late C1 C2) (s2.length + steps.length) listed a w
  | [], listed, a, w, hC, hk, h => by
    injection hk with hk; subst hk
    exact wpSch_to2 h12 hs s2 _ _ _ _ h.1 hk2 hend h.2
  | (true, i) :: r, listed, a, w, hC, hk, h => by
    simp only [schTo1] at hk
    split at hk
    · rename_i hc
      simp only [Bool.and_eq_true, waitsB, List.all_eq_true, Bool.or_eq_true] at hc
      obtain ⟨o, v, ho, hy, hC, h⟩ := h
      refine wpAnyG_first (C := C1) ho (Region.noSelect_spec hs) (fun _ _ _ h => h.elim) _ listed a w (fun j oj hj hji hun hno => ⟨Region.free_spec ho hc.1.2 j oj hj hji hun hno, fun w hw => ?_⟩) (by simpa using hc.1.1) hy hC
        (wpSch_to1 h12 hs s2 _ _ hk2 hend r _ _ _ hC hk h)
      simp only [lateD] at hw
      split at hw
      · rename_i hl
        have := hc.2 j (by simpa using hl)
        rw [hun, hj] at this
        simp only [Bool.false_eq_true, false_or] at this
        obtain ⟨e, he, hb⟩ := Array.any_eq_true'.1 this
        simp only [Bool.and_eq_true, beq_iff_eq] at hb
        exact absurd hb.2 (hno e he hb.1)
      · exact hw
    · cases hk
  | (false, i) :: r, listed, a, w, hC, hk, h => by
    simp only [schTo1] at hk
    split at hk
    · rename_i hc
      simp only [Bool.and_eq_true, Bool.not_eq_true'] at hc
      have hr : Region.ready md ops listed = [i] := by simpa using hc.1
      refine ⟨fun h0 => absurd (hr ▸ h0) (by simp), fun j hj => ?_⟩
      rw [hr] at hj
      have : j = i := by simpa using hj
      subst this
      exact wpOp_mono (fun a' w' h' => ⟨.inr (by simp only [lateD, hc.2]; exact h'.1), wpSch_to1 h12 hs s2 _ _ hk2 hend r _ _ _ h'.1 hk h'.2⟩) (wpOp_QF h)
    · cases hk
def schTo0 (md : Region.Mode) (ops : Array Oper) : List (Bool × Nat) → Array Bool → Option (Array Bool)
  | [], listed => some listed
  | (true, i) :: r, listed => if (Region.ready md ops listed).contains i && Region.free md ops listed i then schTo0 md ops r (listed.setIfInBounds i true) else none
  | (false, _) :: _, _ => none
theorem wpSch_to0 {C1 C2 : World → Prop} {KK : Act → World → Prop} {K : Act → World → Prop} {late : List Nat} (h12 : ∀ w, C1 w → C2 w) (hs : Region.noSelect ops = true) (fuel : Nat) (listed' : Array Bool)
    (hend : ∀ a w, K a w → wpAnyG P md ops (NoQ KK) (lateD late C1 C2) fuel listed' a w) :
    ∀ (steps : List (Bool × Nat)) (listed : Array Bool) (a : Act) (w : World), schTo0 md ops steps listed = some listed' → wpSch P ops C2 K steps a w → wpAnyG P md ops (NoQ KK) (lateD late C1 C2) (fuel + steps.length) listed a w
  | [], listed, a, w, hk, h => by
    injection hk with hk; subst hk
    exact hend a w h
  | (true, i) :: r, listed, a, w, hk, h => by
    simp only [schTo0] at hk
    split at hk
    · rename_i hc
      simp only [Bool.and_eq_true] at hc
      obtain ⟨o, v, ho, hy, hC, h⟩ := h
      refine wpAnyG_first (C := C2) ho (Region.noSelect_spec hs) (fun _ _ _ h => h.elim) _ listed a w (fun j oj hj hji hun hno => ⟨Region.free_spec ho hc.2 j oj hj hji hun hno, fun w hw => ?_⟩) (by simpa using hc.1) hy hC
        (wpSch_to0 h12 hs fuel _ hend r _ _ _ hk h)
      simp only [lateD] at hw
      split at hw
      · exact hw
      · exact h12 _ hw
    · cases hk
  | (false, _) :: _, _, _, _, hk, _ => by cases hk
def lateOf (s2 : List (Bool × Nat)) : List Nat := (s2.filter fun x => !x.1).map (·.2)
/-- Three stages, and the end. -/
def schOkL (md : Region.Mode) (ops : Array Oper) (s0 s1 s2 : List (Bool × Nat)) (listed : Array Bool) : Bool :=
  match schTo0 md ops s0 listed with
  | some l0 => match schTo1 md ops (lateOf s2) s1 l0 with
    | some l => match schTo2 md ops (lateOf s2) s2 l with
      | some l2 => (Region.ready md ops l2).isEmpty
      | none => false
    | none => false
  | none => false
theorem wp_region_schL {id : Nat} {Q : Exit → Act → World → Prop} {C1 C2 : World → Prop} {a : Act} {w : World} (s0 s1 s2 : List (Bool × Nat)) (h12 : ∀ w, C1 w → C2 w) (hm : P.follows .mixedOrders = true) (hs : Region.noSelect ops = true) (hlen : s2.length + s1.length + s0.length = ops.size)
    (hk : schOkL .any ops s0 s1 s2 (Array.replicate ops.size false) = true) (h : wpSch P ops C2 (fun a w => C1 w ∧ wpSch P ops C1 (fun a w => C2 w ∧ wpSch P ops C2 (Q .normal) s2 a w) s1 a w) s0 a w.drew) : (Code.region id ops true).wp P Q a w := by
  refine Code.wp_mono (noQ_imp fun _ _ h => h) (wp_region_any hm (wpAny_of_G (D := lateD (lateOf s2) C1 C2) _ _ _ _ ?_))
  unfold schOkL at hk
  split at hk
  · rename_i l0 hl0
    split at hk
    · rename_i l1 hl1
      split at hk
      · rename_i l2 hl2
        have := wpSch_to0 (P := P) (md := .any) (late := lateOf s2) h12 hs (s2.length + s1.length) l0 (fun a w h => wpSch_to1 (P := P) (md := .any) h12 hs s2 _ _ hl2 (by simpa using hk) s1 _ a w h.1 hl1 h.2) s0 _ a w.drew hl0 h
        rw [hlen] at this
        exact this
      · cases hk
    · cases hk
  · cases hk
end

section
variable {α : Type} {P : Program} {w0 : World} {n : Nat} {S N H : Hp} {l : Fr} {ops : Array Oper} {C : World → Prop} {K : Act → World → Prop} {r : List (Bool × Nat)} {i : Nat}

/-- A region of three stages: in the second one all that is known holds on, in the others L2 does. -/
theorem At.drawL {id : Nat} {Q : Exit → Act → World → Prop} (L2 : Hp) (s0 s1 s2 : List (Bool × Nat)) (h12 : ∀ e ∈ L2, e ∈ S ++ (N ++ H)) (hm : P.follows .mixedOrders = true) (hk : (Region.noSelect ops && (s2.length + s1.length + s0.length == ops.size) && schOkL .any ops s0 s1 s2 (Array.replicate ops.size false)) = true)
    (h : At w0 n S l N H (wpSch P ops (Kept L2) (fun a w => Kept (S ++ (N ++ H)) w ∧ wpSch P ops (Kept (S ++ (N ++ H))) (fun a w => Kept L2 w ∧ wpSch P ops (Kept L2) (Q .normal) s2 a w) s1 a w) s0)) : At w0 n S l N H ((Code.region id ops true).wp P Q) := fun a w ha hw => by
  simp only [Bool.and_eq_true] at hk
  exact wp_region_schL s0 s1 s2 (fun w hw e he => hw e (h12 e he)) hm hk.1.1 (by simpa using hk.1.2) hk.2 (h a w.drew ha hw.drew)
theorem At.stage {C' : World → Prop} {s2 : List (Bool × Nat)} (hC : Cl w0 S N H C') (h : At w0 n S l N H (wpSch P ops C' K s2)) : At w0 n S l N H (wpSch P ops C (fun a w => C' w ∧ wpSch P ops C' K s2 a w) []) := fun a w ha hw => ⟨hC w hw, h a w ha hw⟩

/-- What a slice that reads so looks like. -/
theorem At.sliceForm {X : Act → World → Prop} {v : Value} {sz m : Nat} {xs : List Value} (hr : RdIn (fun w => St w0 w S N H) v sz m xs) (h : ∀ A cap, v = .slice A m cap → m ≤ cap → (0 < m → ∃ b o, A = some ⟨b, o, none⟩) → At w0 n S l N H X) : At w0 n S l N H X := fun a w ha hw => by
  obtain ⟨A, cap, hv, h1, h2, h3, h4⟩ := hr w hw
  exact h A cap hv h1 (fun hm => by obtain ⟨b, o, hA, _⟩ := h4 hm; exact ⟨b, o, hA⟩) a w ha hw
theorem At.rowForm {X : Act → World → Prop} {v : Value} {E : TypeId} {sz m : Nat} {xs : List Value} (hm : Ent.row v E sz m xs ∈ S ++ (N ++ H)) (h0 : 0 < m) (h : ∀ g cap, v = .slice (some ⟨g, 0, none⟩) m cap → At w0 n S l N H X) : At w0 n S l N H X := fun a w ha hw => by
  have := Holds.st hm w hw
  obtain ⟨_, ⟨_, rfl⟩ | ⟨g, cap, cur, hv, _⟩⟩ := this
  · exact absurd h0 (Nat.lt_irrefl _)
  · exact h g cap hv a w ha hw

theorem setFrom_toList : ∀ (vs : List Value) (cs : Array Value) (j : Nat), (setFrom cs j vs).toList = setL cs.toList j vs
  | [], cs, j => rfl
  | v :: vs, cs, j => by rw [setFrom, setL, setFrom_toList vs]; simp
theorem setL_take : ∀ (vs cs : List Value) (j m : Nat), j + vs.length ≤ m → (setL cs j vs).take m = setL (cs.take m) j vs
  | [], cs, j, m, _ => rfl
  | v :: vs, cs, j, m, h => by
    simp only [List.length_cons] at h
    rw [setL, setL, setL_take vs _ _ _ (by omega), List.take_set]
theorem setFrom_size : ∀ (vs : List Value) (cs : Array Value) (j : Nat), (setFrom cs j vs).size = cs.size
  | [], cs, j => rfl
  | v :: vs, cs, j => by rw [setFrom, setFrom_size vs]; simp

/-- An element of a row is stored. -/
theorem At.stRow {p x : Operand} {T ty : TypeId} {pos : String} {af : Array Edge} {gd : Option (Nat × Bool)} {k : Ek α} {E : TypeId} {g cap m : Nat} {j : Int} {xs : List α} {y : α} {u : Value} {N' H' : Hp} (ho : ops[i]? = some ⟨none, .store T p x, ty, pos, af, gd⟩)
    (hg : wantG ops l ⟨none, .store T p x, ty, pos, af, gd⟩ = some true) (hs : (P.info? T).map (·.size) = some k.sz) (hp0 : Ev n l true p (elemPtr (.slice (some ⟨g, 0, none⟩) m cap) (j.toNat * k.sz))) (hx : Ev n l true x u) (hy : u.cells = (k.enc y).toArray)
    (hu : Up N H (.row (.slice (some ⟨g, 0, none⟩) m cap) E k.sz m (k.all xs)) (.row (.slice (some ⟨g, 0, none⟩) m cap) E k.sz m (k.all (xs.set j.toNat y))) N' H') (hm0 : xs.length = m) (hj : 0 ≤ j ∧ j < m)
    (h : Cl w0 S N' H' C ∧ At w0 n S l N' H' (wpSch P ops C K r)) : At w0 n S l N H (wpSch P ops C K ((false, i) :: r)) :=
  At.eW (d := none) ho hg fun a w ha hw => by
    subst hm0
    have hp : Ev n l true p (.pointer (some ⟨g, 0 + j.toNat * k.sz, none⟩)) := by simpa [elemPtr, add_addr] using hp0
    have hm : Ent.row (.slice (some ⟨g, 0, none⟩) xs.length cap) E k.sz xs.length (k.all xs) ∈ N ++ H := by cases hu with | n hl => exact List.mem_append_left _ hl.mem | h hl => exact List.mem_append_right _ hl.mem
    have hrow := hw.has _ hm
    obtain ⟨hlen, ⟨h1, _⟩ | ⟨g', cap', cur, hv, hb, hgb, hnc, hcm, hcs, htake⟩⟩ := hrow
    · cases h1
    · simp only [Value.slice.injEq, Option.some.injEq, Addr.mk.injEq, and_true, true_and] at hv
      obtain ⟨rfl, rfl⟩ := hv
      have hjn : j.toNat < xs.length := by omega
      have hle : j.toNat * k.sz + k.sz ≤ xs.length * k.sz := by rw [← Nat.succ_mul]; exact Nat.mul_le_mul_right _ hjn
      have hcap : xs.length * k.sz ≤ cap * k.sz := Nat.mul_le_mul_right _ hnc
      obtain ⟨w', h2, h3, h4, h5, h6, h7, h8⟩ := run_storeCells P (E := E) (k.enc y) 0 (0 + j.toNat * k.sz) w cur hgb (by rw [k.len, hcs]; omega) (k.one y)
      have hrun : (execOp a.eval ⟨none, .store T p x, ty, pos, af, gd⟩).run P w = .ok .skip w' := by
        have e1 : (k.enc y).toArray.size = k.sz := by simp [k.len]
        simp [execOp, hp rfl a ha, hx rfl a ha, Instr.storeAt, Instr.sureAddr, storeVar, run_sizeOf hs, hy, e1]
        simp only [Nat.zero_add] at h2
        rw [h2]; rfl
      unfold Oper.wp
      rw [hrun, Oper.upon_skip]
      have hown : (Ent.row (.slice (some ⟨g, 0, none⟩) xs.length cap) E k.sz xs.length (k.all (xs.set j.toNat y))).holds w' := by
        refine ⟨by rw [k.all_length, List.length_set], .inr ⟨g, cap, _, rfl, hb, h3, hnc, hcm, by rw [setFrom_size]; exact hcs, ?_⟩⟩
        rw [setFrom_toList, setL_take _ _ _ _ (by rw [k.len]; omega), htake, ← k.all_set xs j.toNat y hjn]
        simp
      have := hw.upd hu rfl hown h4 h5 h6 (by omega) fun q _ hq => h8 q fun e => hq (by rw [e]; rfl)
      exact ⟨h.1 _ this, h.2 _ _ ha this⟩

theorem R.indexSlE {g : Bool} {d : Option Tmp} {ty : TypeId} {pos : String} {af : Array Edge} {gd : Option (Nat × Bool)} {x y : Operand} {T E b o len cap m : Nat} {k : IntKind} {j : Int} (hT : P.underlying T = some (.slice E)) (hs : (P.info? E).map (·.size) = some m) (hx : Ev n l g x (.slice (some ⟨b, o, none⟩) len cap)) (hy : Ev n l g y (.int k j))
    (hj : g = true → 0 ≤ j ∧ j < len) : RunsC P n l C g ⟨d, .indexAddr T x y, ty, pos, af, gd⟩ (elemPtr (.slice (some ⟨b, o, none⟩) len cap) (j.toNat * m)) := fun hg a w ha hw => by
  have := R.indexSl (P := P) (C := C) (d := d) (ty := ty) (pos := pos) (af := af) (gd := gd) hT hs hx hy hj hg a w ha hw
  simpa [elemPtr, add_addr] using this
theorem Cl.none : Cl w0 S N H (Kept []) := fun _ _ _ h => nomatch h
/-- A call through a function value. -/
theorem At.callVF {d : Nat} {fx : Operand} {xs : List Operand} {ats : Array TypeId} {ty : TypeId} {pos : String} {af : Array Edge} {gd : Option (Nat × Bool)} {g : Bool} {f : FuncId} {fst cap : List Value} {vs args : List Value} {S' : Hp} {v0 : Value}
    (ho : ops[i]? = some ⟨some d, .call { callee := .value fx, args := xs.toArray, argTypes := ats }, ty, pos, af, gd⟩) (hdn : Nat.blt d n = true) (hg : wantG ops l ⟨some d, .call { callee := .value fx, args := xs.toArray, argTypes := ats }, ty, pos, af, gd⟩ = some g)
    (hf : Ev n l g fx (.func (.func f) fst.toArray cap.toArray)) (hxs : Evs n l g xs vs) (hargs : fst ++ vs ++ cap = args) (hS : Rds (fun w => St w0 w S N H) S') (hc : g = true → Fn P f args S' [] (IsV v0)) (hC : Cl w0 S N H C)
    (h : At w0 n S ((d, g, v0) :: l) N H (wpSch P ops C K r)) : At w0 n S l N H (wpSch P ops C K ((false, i) :: r)) :=
  At.callG ho hdn hg hf hxs hargs hc hS.all (fun _ _ _ _ hR => ⟨hR.2.2, hR.1⟩) hC h

/-- A call that writes one of the caller's entries, in one of many ways. -/
def IsWE {β : Type} (x : Value) (φ : β → Prop) (E : β → Ent) : Value → Hp → Hp → Prop := fun v N H => v = x ∧ N = [] ∧ ∃ b, φ b ∧ H = [E b]
theorem At.callHE {β : Type} [Inhabited β] {d : Option Nat} {fx : Operand} {xs : List Operand} {ats : Array TypeId} {ty : TypeId} {pos : String} {af : Array Edge} {gd : Option (Nat × Bool)} {f : FuncId} {fst cap : List Value} {vs args : List Value} {S' : Hp} {N1 H1 : β → Hp} {e : Ent} {E : β → Ent} {φ : β → Prop} {x : Value}
    (ho : ops[i]? = some ⟨d, .call { callee := .value fx, args := xs.toArray, argTypes := ats }, ty, pos, af, gd⟩) (hdn : (match d with | none => true | some d => Nat.blt d n) = true) (hg : wantG ops l ⟨d, .call { callee := .value fx, args := xs.toArray, argTypes := ats }, ty, pos, af, gd⟩ = some true)
    (hf : Ev n l true fx (.func (.func f) fst.toArray cap.toArray)) (hxs : Evs n l true xs vs) (hargs : fst ++ vs ++ cap = args) (hS : Rds (fun w => St w0 w S N H) S') (hc : Fn P f args S' [e] (IsWE x φ E)) (hSe : S' = [])
    (hu : ∀ b, Up N H e (E b) (N1 b) (H1 b)) (hk : ∀ b, (E b).key = e.key) (h : ∀ b, φ b → Cl w0 S (N1 b) (H1 b) C ∧ At w0 n S (match d with | none => l | some d => (d, true, x) :: l) (N1 b) (H1 b) (wpSch P ops C K r)) : At w0 n S l N H (wpSch P ops C K ((false, i) :: r)) :=
  At.eW (d := d) ho hg fun a w ha hw => by
    subst hSe
    unfold Oper.wp
    rw [run_call rfl ha hf hxs hc.1, Oper.upon_enter]
    have hm : e ∈ N ++ H := by cases hu default with | n hl => exact List.mem_append_left _ hl.mem | h hl => exact List.mem_append_right _ hl.mem
    have e1 : fst.toArray ++ vs.toArray ++ cap.toArray = args.toArray := by rw [← hargs]; simp
    rw [e1]
    have hw' : St w w [] [] [e] := St.refl (by simpa using hw.has e hm) (by simp) (by cases hx : e.key <;> simp [keys, hx]) (by simp [keys])
    refine (hc.2 w hw').mono ?_
    rintro e0 w' ⟨v, N', H', hR, rfl, hst⟩
    obtain ⟨rfl, rfl, b, hb, rfl⟩ := hR
    have := hw.call1 (hu b) (hk b) hst
    simp only [List.nil_append] at this
    refine ⟨(h b hb).1 w' this, (h b hb).2 _ w' ?_ this⟩
    cases d with
    | none => exact ha
    | some d => exact ha.put (by simpa using hdn) rfl
/-- A call that writes one of the caller's entries and answers a value that hangs on what it did. -/
def IsWX {β : Type} (φ : β → Prop) (X : β → Value) (E : β → Ent) : Value → Hp → Hp → Prop := fun v N H => N = [] ∧ ∃ b, φ b ∧ v = X b ∧ H = [E b]
/-- Two entries lie apart. -/
theorem St.apart2 {w : World} {x y : Ent} (h : St w0 w S N H) (hs : [x, y].Sublist (N ++ H) ∨ [y, x].Sublist (N ++ H)) : ∀ k ∈ keys [x], k ∉ keys [y] := fun k hx hy => by
  have h1 := h.nodup
  rcases hs with hs | hs
  · have h2 := (hs.filterMap Ent.key).nodup h1
    rw [show ([x, y] : Hp) = [x] ++ [y] from rfl, List.filterMap_append] at h2
    exact (List.nodup_append.1 h2).2.2 k hx k hy rfl
  · have h2 := (hs.filterMap Ent.key).nodup h1
    rw [show ([y, x] : Hp) = [y] ++ [x] from rfl, List.filterMap_append] at h2
    exact (List.nodup_append.1 h2).2.2 k hy k hx rfl
theorem At.callHX {β : Type} {d : Nat} {fx : Operand} {xs : List Operand} {ats : Array TypeId} {ty : TypeId} {pos : String} {af : Array Edge} {gd : Option (Nat × Bool)} {f : FuncId} {fst cap : List Value} {vs args : List Value} {S' : Hp} {N1 H1 : β → Hp} {e : Ent} {E : β → Ent} {φ : β → Prop} {X : β → Value}
    (ho : ops[i]? = some ⟨some d, .call { callee := .value fx, args := xs.toArray, argTypes := ats }, ty, pos, af, gd⟩) (hdn : Nat.blt d n = true) (hg : wantG ops l ⟨some d, .call { callee := .value fx, args := xs.toArray, argTypes := ats }, ty, pos, af, gd⟩ = some true)
    (hf : Ev n l true fx (.func (.func f) fst.toArray cap.toArray)) (hxs : Evs n l true xs vs) (hargs : fst ++ vs ++ cap = args) (hS : Rds (fun w => St w0 w S N H) S') (hc : Fn P f args S' [e] (IsWX φ X E)) (hSe : ∀ w, St w0 w S N H → ∀ k ∈ keys S', k ∉ keys [e]) (hm : e ∈ N ++ H)
    (hu : ∀ b, Up N H e (E b) (N1 b) (H1 b)) (hk : ∀ b, φ b → (E b).key = e.key) (h : ∀ b, φ b → Cl w0 S (N1 b) (H1 b) C ∧ At w0 n S ((d, true, X b) :: l) (N1 b) (H1 b) (wpSch P ops C K r)) : At w0 n S l N H (wpSch P ops C K ((false, i) :: r)) :=
  At.eW (d := some d) ho hg fun a w ha hw => by
    unfold Oper.wp
    rw [run_call rfl ha hf hxs hc.1, Oper.upon_enter]
    have e1 : fst.toArray ++ vs.toArray ++ cap.toArray = args.toArray := by rw [← hargs]; simp
    rw [e1]
    have hw' : St w w S' [] [e] := St.refl (by simpa using hw.has e hm) (fun x hx => hS.all x hx w hw) (by cases hx : e.key <;> simp [keys, hx]) (hSe w hw)
    refine (hc.2 w hw').mono ?_
    rintro e0 w' ⟨v, N', H', hR, rfl, hst⟩
    obtain ⟨rfl, b, hb, rfl, rfl⟩ := hR
    have := hw.call1 (hu b) (hk b hb) hst
    simp only [List.nil_append] at this
    exact ⟨(h b hb).1 w' this, (h b hb).2 _ w' (ha.put (by simpa using hdn) rfl) this⟩
theorem setL_before : ∀ (vs cs : List Value) (j m : Nat), m ≤ j → (setL cs j vs).take m = cs.take m
  | [], cs, j, m, _ => rfl
  | v :: vs, cs, j, m, h => by
    rw [setL, setL_before vs _ _ _ (by omega), List.take_set_of_le h]
/-- 'clear(s[lo:])': of the row its first lo elements stand. -/
theorem At.clearCut {x : Operand} {t ty : TypeId} {pos : String} {af : Array Edge} {gd : Option (Nat × Bool)} {e E : TypeId} {k : Ek α} {g cap m lo : Nat} {xs : List α} {zv : Value} {N' H' : Hp}
    (ho : ops[i]? = some ⟨none, .call { callee := .builtin .clear, args := #[x], argTypes := #[t] }, ty, pos, af, gd⟩) (hg : wantG ops l ⟨none, .call { callee := .builtin .clear, args := #[x], argTypes := #[t] }, ty, pos, af, gd⟩ = some true)
    (hT : P.underlying t = some (.slice e)) (hz : (P.info? e).bind (·.zero) = some zv) (hzs : zv.cells.size = k.sz) (hone : (zv.cells.toList.all fun v => v.oneCell') = true) (hsz : 0 < k.sz) (hx : Ev n l true x (cutV (.slice (some ⟨g, 0, none⟩) m cap) k.sz lo m)) (hlo : lo ≤ m)
    (hu : Up N H (.row (.slice (some ⟨g, 0, none⟩) m cap) E k.sz m (k.all xs)) (.row (.slice (some ⟨g, 0, none⟩) lo cap) E k.sz lo (k.all (xs.take lo))) N' H') (hm0 : xs.length = m)
    (h : Cl w0 S N' H' C ∧ At w0 n S l N' H' (wpSch P ops C K r)) : At w0 n S l N H (wpSch P ops C K ((false, i) :: r)) :=
  At.eW (d := none) ho hg fun a w ha hw => by
    subst hm0
    have hm : Ent.row (.slice (some ⟨g, 0, none⟩) xs.length cap) E k.sz xs.length (k.all xs) ∈ N ++ H := by cases hu with | n hl => exact List.mem_append_left _ hl.mem | h hl => exact List.mem_append_right _ hl.mem
    have hrow := hw.has _ hm
    obtain ⟨hlen, ⟨h1, _⟩ | ⟨g', cap', cur, hv, hb, hgb, hnc, hcm, hcs, htake⟩⟩ := hrow
    · cases h1
    · simp only [Value.slice.injEq, Option.some.injEq, Addr.mk.injEq, and_true, true_and] at hv
      obtain ⟨rfl, rfl⟩ := hv
      have hlsz : lo * k.sz ≤ xs.length * k.sz := Nat.mul_le_mul_right _ hlo
      have hcsz : xs.length * k.sz ≤ cap * k.sz := Nat.mul_le_mul_right _ hnc
      have hcut : ∀ (c' : Array Value), c'.size = cap * k.sz → c'.toList.take (xs.length * k.sz) = c'.toList.take (xs.length * k.sz) → c'.toList.take (lo * k.sz) = cur.toList.take (lo * k.sz) → c'.toList.take (lo * k.sz) = k.all (xs.take lo) := fun c' _ _ h3 => by
        rw [h3, ← k.all_take, ← htake, List.take_take, Nat.min_eq_left hlsz]
      rcases Nat.lt_or_ge lo xs.length with hlt | hge
      · have hne : ¬ cap = lo := by omega
        have hxv := hx rfl a ha
        simp only [cutV, hne, if_false, Option.map_some, add_addr] at hxv
        have hzv : (zeroValue e).run P w = .ok zv w := by
          cases hi : P.info? e with
          | none => rw [hi] at hz; cases hz
          | some inf => rw [hi] at hz; simp at hz; simp [zeroValue, typeInfo, hi, hz]
        have hzl : (Builtin.zeroCells zv.cells (xs.length - lo)).size = (xs.length - lo) * k.sz := by rw [← hzs]; exact size_zeroCells _ _
        have hzo : ∀ v ∈ (Builtin.zeroCells zv.cells (xs.length - lo)).toList, v.oneCell' = true := fun v hv => by
          obtain ⟨j, hj, rfl⟩ := List.mem_iff_getElem.1 hv
          simp only [Array.length_toList, hzl] at hj
          simp only [Builtin.zeroCells, Array.getElem_toList]
          simp only [Array.getElem_map, Array.getElem_range]
          have hp : 0 < zv.cells.size := by omega
          rw [getElem!_pos zv.cells _ (Nat.mod_lt _ hp)]
          exact List.all_eq_true.1 hone _ (by simp)
        obtain ⟨w', h2, h3, h4, h5, h6, h7, h8⟩ := run_storeCells P (E := E) (Builtin.zeroCells zv.cells (xs.length - lo)).toList 0 (0 + lo * k.sz) w cur hgb (by rw [Array.length_toList, hzl, Nat.sub_mul, hcs]; omega) hzo
        have hrun : (execOp a.eval ⟨none, .call { callee := .builtin .clear, args := #[x], argTypes := #[t] }, ty, pos, af, gd⟩).run P w = .ok (.value (.tuple #[])) w' := by
          obtain ⟨q, hq⟩ : ∃ q, xs.length - lo = q + 1 := ⟨xs.length - lo - 1, by omega⟩
          rw [hq] at hxv h2
          simp [execOp, resolve, invoke, builtin, hxv, Builtin.clear_, run_underlying hT, hzv]
          simp only [Nat.zero_add] at h2
          rw [h2]; rfl
        unfold Oper.wp
        rw [hrun, Oper.upon_value]
        have hown : (Ent.row (.slice (some ⟨g, 0, none⟩) lo cap) E k.sz lo (k.all (xs.take lo))).holds w' := by
          refine ⟨by rw [k.all_length, List.length_take, Nat.min_eq_left hlo], .inr ⟨g, cap, _, rfl, hb, h3, by omega, hcm, by rw [setFrom_size]; exact hcs, ?_⟩⟩
          refine hcut _ (by rw [setFrom_size]; exact hcs) rfl ?_
          rw [setFrom_toList, setL_before _ _ _ _ (by omega)]
        have := hw.upd hu rfl hown h4 h5 h6 (by omega) fun q _ hq => h8 q fun e => hq (by rw [e]; rfl)
        exact ⟨h.1 _ this, h.2 _ _ ha this⟩
      · have hle : lo = xs.length := by omega
        subst hle
        have hxv := hx rfl a ha
        simp only [cutV, Nat.sub_self] at hxv
        have hrun : (execOp a.eval ⟨none, .call { callee := .builtin .clear, args := #[x], argTypes := #[t] }, ty, pos, af, gd⟩).run P w = .ok (.value (.tuple #[])) w := by
          by_cases hcl : cap = xs.length
          · simp [execOp, resolve, invoke, builtin, hxv, Builtin.clear_, run_underlying hT, hcl]
          · simp [execOp, resolve, invoke, builtin, hxv, Builtin.clear_, run_underlying hT, hcl]
        unfold Oper.wp
        rw [hrun, Oper.upon_value]
        have hown : (Ent.row (.slice (some ⟨g, 0, none⟩) xs.length cap) E k.sz xs.length (k.all (xs.take xs.length))).holds w := by
          rw [List.take_length]; exact ⟨hlen, .inr ⟨g, cap, cur, rfl, hb, hgb, hnc, hcm, hcs, htake⟩⟩
        have := hw.upd hu rfl hown rfl rfl rfl (Nat.le_refl _) (fun q _ _ => rfl)
        exact ⟨h.1 _ this, h.2 _ _ ha this⟩
/-- Half of a number. -/
theorem R.shr1 {g : Bool} {d : Option Tmp} {x : Operand} {T U : TypeId} {ty : TypeId} {pos : String} {af : Array Edge} {gd : Option (Nat × Bool)} {k k' : IntKind} {a : Int} (hx : Ev n l g x (.int k a)) (hk : Nat.ble 1 k.bits = true) :
    RunsC P n l C g ⟨d, .binOp .shr T x (.const (.int k' 1)) U, ty, pos, af, gd⟩ (.int k (a / 2)) := fun hg A w ha _ => by
  have e : A.eval (.const (.int k' 1)) = .int k' 1 := rfl
  have h1 : min (1 : Int).toNat k.bits = 1 := by have := Nat.le_of_ble_eq_true hk; simp; omega
  have h2 : a.fdiv 2 = a / 2 := Int.fdiv_eq_ediv_of_nonneg a (by omega)
  simp [execOp, hx.eq hg ha, e, eqGuard, binOp, Op.shift]
  have h3 : min 1 k.bits = 1 := by simpa using h1
  rw [h3]; simpa using h2
theorem R.eqlNilS {g : Bool} {d : Option Tmp} {x : Operand} {T U : TypeId} {E : TypeId} {ty : TypeId} {pos : String} {af : Array Edge} {gd : Option (Nat × Bool)} {A : Option Addr} {m cap : Nat} (hT : P.underlying T = some (.slice E)) (hx : Ev n l g x (.slice A m cap)) :
    RunsC P n l C g ⟨d, .binOp .eql T x (.const (.slice none 0 0)) U, ty, pos, af, gd⟩ (.bool A.isNone) := fun hg a w ha _ => by
  have e : a.eval (.const (.slice none 0 0)) = .slice none 0 0 := rfl
  have h1 : (eqGuard .eql T x (.const (.slice none 0 0)) (.slice A m cap) (.slice none 0 0)) = pure () := rfl
  have h2 : (binOp .eql T (.slice A m cap) (.slice none 0 0)).run P w = .ok (.bool A.isNone) w := by
    have := run_equal_slice_nil (P := P) w T E A m cap hT
    show (do pure (Value.bool (← Op.equal T (.slice A m cap) (.slice none 0 0))) : Sem Value).run P w = _
    simp [this]
  simp only [execOp, hx.eq hg ha, e, h1]
  simp [h2]
end

/-! ### What lies between two parts of the code -/
section
variable {P : Program} {w0 : World} {n : Nat} {S N H : Hp} {l : Fr} {Q : Exit → Act → World → Prop}
def Mid1 (w0 : World) (n : Nat) (S : Hp) {β0 : Type} (I : β0 → Prop) (L : β0 → Fr) (NN HH : β0 → Hp) : Act → World → Prop := fun a w => ∃ x0, I x0 ∧ Fk n (L x0) a ∧ St w0 w S (NN x0) (HH x0)
theorem At.cut1 {β0 : Type} (I : β0 → Prop) (L : β0 → Fr) (NN HH : β0 → Hp) {c : Code} {K : Act → World → Prop} (h1 : At w0 n S l N H (c.wp P (Exit.then (Mid1 w0 n S I L NN HH) Q))) (h2 : ∀ (x0 : β0), I x0 → At w0 n S (L x0) (NN x0) (HH x0) K) : At w0 n S l N H (c.wp P (Exit.then K Q)) := fun a w ha hw => by
  refine Code.wp_mono ?_ (h1 a w ha hw)
  rintro e a' w' h
  cases e with
  | normal => obtain ⟨x0, hI, k1, k2⟩ := h; exact h2 x0 hI a' w' k1 k2
  | _ => exact h
theorem At.mid1 {β0 : Type} {I : β0 → Prop} {L : β0 → Fr} {NN HH : β0 → Hp} (x0 : β0) (hI : I x0) (hl : Sub l (L x0)) (hN : (NN x0).Sublist N) (hH : HH x0 = H) : At w0 n S l N H (Mid1 w0 n S I L NN HH) := fun a w ha hw => by
  subst hH
  exact ⟨x0, hI, ha.weak hl.look, hw.forget hN⟩
def Mid2 (w0 : World) (n : Nat) (S : Hp) {β0 β1 : Type} (I : β0 → β1 → Prop) (L : β0 → β1 → Fr) (NN HH : β0 → β1 → Hp) : Act → World → Prop := fun a w => ∃ x0 x1, I x0 x1 ∧ Fk n (L x0 x1) a ∧ St w0 w S (NN x0 x1) (HH x0 x1)
theorem At.cut2 {β0 β1 : Type} (I : β0 → β1 → Prop) (L : β0 → β1 → Fr) (NN HH : β0 → β1 → Hp) {c : Code} {K : Act → World → Prop} (h1 : At w0 n S l N H (c.wp P (Exit.then (Mid2 w0 n S I L NN HH) Q))) (h2 : ∀ (x0 : β0) (x1 : β1), I x0 x1 → At w0 n S (L x0 x1) (NN x0 x1) (HH x0 x1) K) : At w0 n S l N H (c.wp P (Exit.then K Q)) := fun a w ha hw => by
  refine Code.wp_mono ?_ (h1 a w ha hw)
  rintro e a' w' h
  cases e with
  | normal => obtain ⟨x0, x1, hI, k1, k2⟩ := h; exact h2 x0 x1 hI a' w' k1 k2
  | _ => exact h
theorem At.mid2 {β0 β1 : Type} {I : β0 → β1 → Prop} {L : β0 → β1 → Fr} {NN HH : β0 → β1 → Hp} (x0 : β0) (x1 : β1) (hI : I x0 x1) (hl : Sub l (L x0 x1)) (hN : (NN x0 x1).Sublist N) (hH : HH x0 x1 = H) : At w0 n S l N H (Mid2 w0 n S I L NN HH) := fun a w ha hw => by
  subst hH
  exact ⟨x0, x1, hI, ha.weak hl.look, hw.forget hN⟩
def Mid3 (w0 : World) (n : Nat) (S : Hp) {β0 β1 β2 : Type} (I : β0 → β1 → β2 → Prop) (L : β0 → β1 → β2 → Fr) (NN HH : β0 → β1 → β2 → Hp) : Act → World → Prop := fun a w => ∃ x0 x1 x2, I x0 x1 x2 ∧ Fk n (L x0 x1 x2) a ∧ St w0 w S (NN x0 x1 x2) (HH x0 x1 x2)
theorem At.cut3 {β0 β1 β2 : Type} (I : β0 → β1 → β2 → Prop) (L : β0 → β1 → β2 → Fr) (NN HH : β0 → β1 → β2 → Hp) {c : Code} {K : Act → World → Prop} (h1 : At w0 n S l N H (c.wp P (Exit.then (Mid3 w0 n S I L NN HH) Q))) (h2 : ∀ (x0 : β0) (x1 : β1) (x2 : β2), I x0 x1 x2 → At w0 n S (L x0 x1 x2) (NN x0 x1 x2) (HH x0 x1 x2) K) : At w0 n S l N H (c.wp P (Exit.then K Q)) := fun a w ha hw => by
  refine Code.wp_mono ?_ (h1 a w ha hw)
  rintro e a' w' h
  cases e with
  | normal => obtain ⟨x0, x1, x2, hI, k1, k2⟩ := h; exact h2 x0 x1 x2 hI a' w' k1 k2
  | _ => exact h
theorem At.mid3 {β0 β1 β2 : Type} {I : β0 → β1 → β2 → Prop} {L : β0 → β1 → β2 → Fr} {NN HH : β0 → β1 → β2 → Hp} (x0 : β0) (x1 : β1) (x2 : β2) (hI : I x0 x1 x2) (hl : Sub l (L x0 x1 x2)) (hN : (NN x0 x1 x2).Sublist N) (hH : HH x0 x1 x2 = H) : At w0 n S l N H (Mid3 w0 n S I L NN HH) := fun a w ha hw => by
  subst hH
  exact ⟨x0, x1, x2, hI, ha.weak hl.look, hw.forget hN⟩
def Mid4 (w0 : World) (n : Nat) (S : Hp) {β0 β1 β2 β3 : Type} (I : β0 → β1 → β2 → β3 → Prop) (L : β0 → β1 → β2 → β3 → Fr) (NN HH : β0 → β1 → β2 → β3 → Hp) : Act → World → Prop := fun a w => ∃ x0 x1 x2 x3, I x0 x1 x2 x3 ∧ Fk n (L x0 x1 x2 x3) a ∧ St w0 w S (NN x0 x1 x2 x3) (HH x0 x1 x2 x3)
theorem At.cut4 {β0 β1 β2 β3 : Type} (I : β0 → β1 → β2 → β3 → Prop) (L : β0 → β1 → β2 → β3 → Fr) (NN HH : β0 → β1 → β2 → β3 → Hp) {c : Code} {K : Act → World → Prop} (h1 : At w0 n S l N H (c.wp P (Exit.then (Mid4 w0 n S I L NN HH) Q))) (h2 : ∀ (x0 : β0) (x1 : β1) (x2 : β2) (x3 : β3), I x0 x1 x2 x3 → At w0 n S (L x0 x1 x2 x3) (NN x0 x1 x2 x3) (HH x0 x1 x2 x3) K) : At w0 n S l N H (c.wp P (Exit.then K Q)) := fun a w ha hw => by
  refine Code.wp_mono ?_ (h1 a w ha hw)
  rintro e a' w' h
  cases e with
  | normal => obtain ⟨x0, x1, x2, x3, hI, k1, k2⟩ := h; exact h2 x0 x1 x2 x3 hI a' w' k1 k2
  | _ => exact h
theorem At.mid4 {β0 β1 β2 β3 : Type} {I : β0 → β1 → β2 → β3 → Prop} {L : β0 → β1 → β2 → β3 → Fr} {NN HH : β0 → β1 → β2 → β3 → Hp} (x0 : β0) (x1 : β1) (x2 : β2) (x3 : β3) (hI : I x0 x1 x2 x3) (hl : Sub l (L x0 x1 x2 x3)) (hN : (NN x0 x1 x2 x3).Sublist N) (hH : HH x0 x1 x2 x3 = H) : At w0 n S l N H (Mid4 w0 n S I L NN HH) := fun a w ha hw => by
  subst hH
  exact ⟨x0, x1, x2, x3, hI, ha.weak hl.look, hw.forget hN⟩
def Mid5 (w0 : World) (n : Nat) (S : Hp) {β0 β1 β2 β3 β4 : Type} (I : β0 → β1 → β2 → β3 → β4 → Prop) (L : β0 → β1 → β2 → β3 → β4 → Fr) (NN HH : β0 → β1 → β2 → β3 → β4 → Hp) : Act → World → Prop := fun a w => ∃ x0 x1 x2 x3 x4, I x0 x1 x2 x3 x4 ∧ Fk n (L x0 x1 x2 x3 x4) a ∧ St w0 w S (NN x0 x1 x2 x3 x4) (HH x0 x1 x2 x3 x4)
theorem At.cut5 {β0 β1 β2 β3 β4 : Type} (I : β0 → β1 → β2 → β3 → β4 → Prop) (L : β0 → β1 → β2 → β3 → β4 → Fr) (NN HH : β0 → β1 → β2 → β3 → β4 → Hp) {c : Code} {K : Act → World → Prop} (h1 : At w0 n S l N H (c.wp P (Exit.then (Mid5 w0 n S I L NN HH) Q))) (h2 : ∀ (x0 : β0) (x1 : β1) (x2 : β2) (x3 : β3) (x4 : β4), I x0 x1 x2 x3 x4 → At w0 n S (L x0 x1 x2 x3 x4) (NN x0 x1 x2 x3 x4) (HH x0 x1 x2 x3 x4) K) : At w0 n S l N H (c.wp P (Exit.then K Q)) := fun a w ha hw => by
  refine Code.wp_mono ?_ (h1 a w ha hw)
  rintro e a' w' h
  cases e with
  | normal => obtain ⟨x0, x1, x2, x3, x4, hI, k1, k2⟩ := h; exact h2 x0 x1 x2 x3 x4 hI a' w' k1 k2
  | _ => exact h
theorem At.mid5 {β0 β1 β2 β3 β4 : Type} {I : β0 → β1 → β2 → β3 → β4 → Prop} {L : β0 → β1 → β2 → β3 → β4 → Fr} {NN HH : β0 → β1 → β2 → β3 → β4 → Hp} (x0 : β0) (x1 : β1) (x2 : β2) (x3 : β3) (x4 : β4) (hI : I x0 x1 x2 x3 x4) (hl : Sub l (L x0 x1 x2 x3 x4)) (hN : (NN x0 x1 x2 x3 x4).Sublist N) (hH : HH x0 x1 x2 x3 x4 = H) : At w0 n S l N H (Mid5 w0 n S I L NN HH) := fun a w ha hw => by
  subst hH
  exact ⟨x0, x1, x2, x3, x4, hI, ha.weak hl.look, hw.forget hN⟩
end
end Go.Proofs.Ytimclnhklaldfaa
