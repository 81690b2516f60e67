/- The verifier's own engine, third part: the steps of a walk, said of what is known. -/
import Derived.Test.YtimclnhklaldfaaEngB
namespace Go.Proofs.Ytimclnhklaldfaa
open Go Go.RowKit
set_option linter.unusedSectionVars false
variable [Df]

/-- In whatever frame and world of which this is known, X holds. -/
def At (w0 : World) (n : Nat) (S : Hp) (l : Fr) (N H : Hp) (X : Act → World → Prop) : Prop := ∀ a w, Fk n l a → St w0 w S N H → X a w

section
variable {P : Program} {w0 : World} {n : Nat} {S N H : Hp} {l : Fr} {Q : Exit → Act → World → Prop}

theorem At.seq {x y : Code} (h : At w0 n S l N H (x.wp P (Exit.then (y.wp P Q) Q))) : At w0 n S l N H ((Code.seq x y).wp P Q) := fun a w ha hw => wp_seq (h a w ha hw)
theorem At.block {id : Nat} {c : Code} (h : At w0 n S l N H (c.wp P (Exit.inBlock id Q))) : At w0 n S l N H ((Code.block id c).wp P Q) := fun a w ha hw => wp_block (h a w ha hw)
theorem At.skip (h : At w0 n S l N H (Q .normal)) : At w0 n S l N H (Code.skip.wp P Q) := fun a w ha hw => wp_skip (h a w ha hw)
theorem At.exit {id : Nat} (h : At w0 n S l N H (Q (.exit id))) : At w0 n S l N H ((Code.exit id).wp P Q) := fun a w ha hw => wp_exit (h a w ha hw)
theorem At.ret (h : At w0 n S l N H (Q .ret)) : At w0 n S l N H (Code.ret.wp P Q) := fun a w ha hw => wp_ret (h a w ha hw)
theorem At.condT {c : Operand} {x y : Code} (hc : Ev n l true c (.bool true)) (h : At w0 n S l N H (x.wp P Q)) : At w0 n S l N H ((Code.cond c x y).wp P Q) := fun a w ha hw => wp_cond_true (hc rfl a ha) (h a w ha hw)
theorem At.condF {c : Operand} {x y : Code} (hc : Ev n l true c (.bool false)) (h : At w0 n S l N H (y.wp P Q)) : At w0 n S l N H ((Code.cond c x y).wp P Q) := fun a w ha hw => wp_cond_false (hc rfl a ha) (h a w ha hw)
theorem At.cond {c : Operand} {x y : Code} {t : Bool} (hc : Ev n l true c (.bool t)) (hT : t = true → At w0 n S l N H (x.wp P Q)) (hF : t = false → At w0 n S l N H (y.wp P Q)) : At w0 n S l N H ((Code.cond c x y).wp P Q) :=
  fun a w ha hw => wp_cond_split (hc rfl a ha) (fun e => hT e a w ha hw) (fun e => hF e a w ha hw)
theorem At.condD {c : Operand} {x y : Code} {p : Prop} [Decidable p] (hc : Ev n l true c (.bool (decide p))) (hT : p → At w0 n S l N H (x.wp P Q)) (hF : ¬ p → At w0 n S l N H (y.wp P Q)) : At w0 n S l N H ((Code.cond c x y).wp P Q) :=
  At.cond hc (fun e => hT (of_decide_eq_true e)) (fun e => hF (of_decide_eq_false e))
theorem At.condN {c : Operand} {x y : Code} {p : Prop} [Decidable p] (hc : Ev n l true c (.bool (!decide p))) (hT : ¬ p → At w0 n S l N H (x.wp P Q)) (hF : p → At w0 n S l N H (y.wp P Q)) : At w0 n S l N H ((Code.cond c x y).wp P Q) :=
  At.cond hc (fun e => hT (by simpa using e)) (fun e => hF (by simpa using e))
/-- A slot's Bool is parted on. -/
theorem At.part {X : Act → World → Prop} (t : Nat) {b : Bool} (ht : look l t = some (true, .bool b)) (hT : b = true → At w0 n S ((t, true, .bool true) :: l) N H X) (hF : b = false → At w0 n S ((t, true, .bool false) :: l) N H X) : At w0 n S l N H X := by
  intro a w ha hw
  have key : ∀ (b' : Bool), b = b' → Fk n ((t, true, .bool b') :: l) a := fun b' e => ha.weak fun t' v h => by
    simp only [look] at h
    split at h
    · rename_i e'; subst e'; rw [ht, ← h, e]
    · exact h
  cases b with
  | true => exact hT rfl a w (key true rfl) hw
  | false => exact hF rfl a w (key false rfl) hw

theorem At.tN {next : Act → World → Prop} (h : At w0 n S l N H next) : At w0 n S l N H (Exit.then next Q .normal) := h
theorem At.tR {next : Act → World → Prop} (h : At w0 n S l N H (Q .ret)) : At w0 n S l N H (Exit.then next Q .ret) := h
theorem At.tE {next : Act → World → Prop} {i : Nat} (h : At w0 n S l N H (Q (.exit i))) : At w0 n S l N H (Exit.then next Q (.exit i)) := h
theorem At.bN {id : Nat} (h : At w0 n S l N H (Q .normal)) : At w0 n S l N H (Exit.inBlock id Q .normal) := h
theorem At.bR {id : Nat} (h : At w0 n S l N H (Q .ret)) : At w0 n S l N H (Exit.inBlock id Q .ret) := h
theorem At.bE {id : Nat} (h : At w0 n S l N H (Q .normal)) : At w0 n S l N H (Exit.inBlock id Q (.exit id)) := fun a w ha hw => by
  simp only [Exit.inBlock, if_true]; exact h a w ha hw
theorem At.bX {id i : Nat} (hi : Nat.beq i id = false) (h : At w0 n S l N H (Q (.exit i))) : At w0 n S l N H (Exit.inBlock id Q (.exit i)) := fun a w ha hw => by
  have : ¬ i = id := fun e => by subst e; simp at hi
  simp only [Exit.inBlock, this, if_false]; exact h a w ha hw

/-- What is known is made less. -/
theorem At.weak {l' : Fr} {N' : Hp} {X : Act → World → Prop} (hl : ∀ t v, look l' t = some v → look l t = some v) (hN : N'.Sublist N) (h : At w0 n S l' N' H X) : At w0 n S l N H X :=
  fun a w ha hw => h a w (ha.weak hl) (hw.forget hN)
end

/-! ### Regions -/
section
variable {P : Program} {ops : Array Oper} {C : World → Prop} {md : Region.Mode}

def NoQ (K : Act → World → Prop) : Exit → Act → World → Prop
  | .normal, a, w => K a w
  | _, _, _ => False
/-- No way out but the normal one. -/
abbrev QF : Exit → Act → World → Prop := fun _ _ _ => False
theorem wpOp_QF {K : Act → World → Prop} {i : Nat} {K' : Act → World → Prop} {a : Act} {w : World} (h : wpOp P ops QF i K' a w) : wpOp P ops (NoQ K) i K' a w := by
  unfold wpOp at *
  cases ho : ops[i]? with
  | none => simp only [ho] at h ⊢; exact h
  | some o =>
    simp only [ho] at h ⊢
    by_cases hw : Region.wanted o (yielded ops a.tmps) = true
    · simp only [hw, if_true] at h ⊢
      refine .inl ?_
      rcases h with h | ⟨_, ⟨_, _, h⟩⟩
      · unfold Oper.wp at *
        generalize (execOp a.eval o).run P w = r at *
        cases r with
        | ok x w' =>
          cases x <;> simp only [Oper.upon] at h ⊢ <;> first | exact h | skip
          all_goals
            refine Calls.mono h fun e w'' he => ?_
            cases e with
            | returned u => exact he
            | panicked c => exact (he : False).elim
            | outgrown => obtain ⟨_, _, hf⟩ := he; exact (hf : False).elim
        | halt x w' =>
          cases x <;> simp only [Oper.upon] at h ⊢
          exact (h : False).elim
      · exact (h : False).elim
    · simp only [hw] at h ⊢
      exact h

/-- The operations in a chosen order: (true, i): number i yields its value in every world of the class; (false, i): it is carried out. -/
def wpSch (P : Program) (ops : Array Oper) (C : World → Prop) (K : Act → World → Prop) : List (Bool × Nat) → Act → World → Prop
  | [], a, w => K a w
  | (true, i) :: r, a, w => ∃ o v, ops[i]? = some o ∧ YieldsIf P ops C o v a ∧ C w ∧ wpSch P ops C K r (a.put o.dst v) w
  | (false, i) :: r, a, w => wpOp P ops QF i (fun a' w' => C w' ∧ wpSch P ops C K r a' w') a w

def schTo (md : Region.Mode) (ops : Array Oper) : List (Bool × Nat) → Array Bool → Option (Array Bool)
  | [], listed => some listed
  | (true, i) :: r, listed => if (Region.ready md ops listed).contains i && Region.free md ops listed i then schTo md ops r (listed.setIfInBounds i true) else none
  | (false, i) :: r, listed => if Region.ready md ops listed == [i] then schTo md ops r (listed.setIfInBounds i true) else none

theorem wpSch_to {K KK : Act → World → Prop} (hs : Region.noSelect ops = true) (fuel : Nat) (listed' : Array Bool) (hend : ∀ a w, C w → K a w → wpAnyH P md ops (NoQ KK) C fuel listed' a w) :
    ∀ (steps : List (Bool × Nat)) (listed : Array Bool) (a : Act) (w : World), C w → schTo md ops steps listed = some listed' → wpSch P ops C K steps a w → wpAnyH P md ops (NoQ KK) C (fuel + steps.length) listed a w
  | [], listed, a, w, hC, hk, h => by
    injection hk with hk; subst hk
    exact hend a w hC h
  | (true, i) :: r, listed, a, w, hC, hk, h => by
    simp only [schTo] at hk
    split at hk
    · rename_i hc
      simp only [Bool.and_eq_true] at hc
      obtain ⟨o, v, ho, hy, hC, h⟩ := h
      exact wpAnyH_take ho hs hc.2 hc.1 (fun _ _ _ h => h.elim) hy hC (wpSch_to hs fuel listed' hend r _ _ _ hC hk h)
    · cases hk
  | (false, i) :: r, listed, a, w, hC, hk, h => by
    simp only [schTo] at hk
    split at hk
    · rename_i hc
      have hr : Region.ready md ops listed = [i] := by simpa using hc
      refine wpAnyH_all hr (by simp) fun j hj => ?_
      have : j = i := by simpa using hj
      subst this
      exact wpOp_mono (fun a' w' h' => ⟨h'.1, wpSch_to hs fuel listed' hend r _ _ _ h'.1 hk h'.2⟩) (wpOp_QF h)
    · cases hk

theorem noQ_imp {K : Act → World → Prop} {Q : Exit → Act → World → Prop} (h : ∀ a w, K a w → Q .normal a w) : ∀ (e : Exit) (a : Act) (w : World), NoQ K e a w → Q e a w := fun e a w hh => by
  cases e <;> first | exact h a w hh | exact (hh : False).elim

/-- Does a chosen order lead to the end? -/
def schOk (md : Region.Mode) (ops : Array Oper) (steps : List (Bool × Nat)) (listed : Array Bool) : Bool :=
  match schTo md ops steps listed with
  | some l => (Region.ready md ops l).isEmpty
  | none => false
theorem wpSch_any {K : Act → World → Prop} (hs : Region.noSelect ops = true) (steps : List (Bool × Nat)) (listed : Array Bool) (a : Act) (w : World) (hC : C w) (hk : schOk md ops steps listed = true) (h : wpSch P ops C K steps a w) :
    wpAnyH P md ops (NoQ K) C steps.length listed a w := by
  unfold schOk at hk
  split at hk
  · rename_i l' hl
    have := wpSch_to (md := md) hs 0 l' (fun a w _ h => wpAnyH_done (by simpa using hk) h 0) steps listed a w hC hl h
    simpa using this
  · cases hk

theorem wp_region_sch {id : Nat} {Q : Exit → Act → World → Prop} {a : Act} {w : World} (steps : List (Bool × Nat)) (hm : P.follows .mixedOrders = true) (hs : Region.noSelect ops = true) (hlen : steps.length = ops.size)
    (hk : schOk .any ops steps (Array.replicate ops.size false) = true) (hC : C w.drew) (h : wpSch P ops C (Q .normal) steps a w.drew) : (Code.region id ops true).wp P Q a w := by
  refine Code.wp_mono (noQ_imp fun _ _ h => h) (wp_region_held (S := C) hm ?_)
  rw [← hlen]
  rw [← hlen] at hk
  exact wpSch_any hs steps _ a w.drew hC hk h

/-- Two that may come up in either order, behind the first steps. -/
def schOk2 (md : Region.Mode) (ops : Array Oper) (pre : List (Bool × Nat)) (i j : Nat) (r1 r2 : List (Bool × Nat)) (listed : Array Bool) : Bool :=
  match schTo md ops pre listed with
  | some l => (Region.ready md ops l == [i, j]) && schOk md ops r1 (l.setIfInBounds i true) && schOk md ops r2 (l.setIfInBounds j true) && (r1.length == r2.length)
  | none => false
theorem wp_region_sch2 {id : Nat} {Q : Exit → Act → World → Prop} {a : Act} {w : World} (pre : List (Bool × Nat)) (i j : Nat) (r1 r2 : List (Bool × Nat)) (hm : P.follows .mixedOrders = true) (hs : Region.noSelect ops = true) (hlen : pre.length + (r1.length + 1) = ops.size)
    (hk : schOk2 .any ops pre i j r1 r2 (Array.replicate ops.size false) = true) (hC : C w.drew)
    (h : wpSch P ops C (fun a w => wpSch P ops C (Q .normal) ((false, i) :: r1) a w ∧ wpSch P ops C (Q .normal) ((false, j) :: r2) a w) pre a w.drew) : (Code.region id ops true).wp P Q a w := by
  refine Code.wp_mono (noQ_imp fun _ _ h => h) (wp_region_held (S := C) hm ?_)
  unfold schOk2 at hk
  split at hk
  · rename_i l' hl
    simp only [Bool.and_eq_true] at hk
    obtain ⟨⟨⟨hr, h1⟩, h2⟩, h3⟩ := hk
    have hr' : Region.ready .any ops l' = [i, j] := by simpa using hr
    have h3' : r1.length = r2.length := by simpa using h3
    have := wpSch_to (md := .any) (KK := Q .normal) hs (r1.length + 1) l' (fun a w hC hh => wpAnyH_all hr' (by simp) fun x hx => by
      have hx' : x = i ∨ x = j := by simpa using hx
      rcases hx' with rfl | rfl
      · exact wpOp_mono (fun a' w' h' => ⟨h'.1, wpSch_any hs r1 _ _ _ h'.1 h1 h'.2⟩) (wpOp_QF hh.1)
      · exact wpOp_mono (fun a' w' h' => ⟨h'.1, by rw [h3']; exact wpSch_any hs r2 _ _ _ h'.1 h2 h'.2⟩) (wpOp_QF hh.2)) pre _ a w.drew hC hl h
    rw [Nat.add_comm, hlen] at this
    exact this
  · cases hk

theorem wpOps_of_sch {K : Act → World → Prop} : ∀ (l : List Nat) (a : Act) (w : World), (∀ i ∈ l, ops[i]?.isSome) → wpSch P ops C K (l.map fun i => (false, i)) a w → wpOps P ops (NoQ K) l a w
  | [], _, _, _, h => h
  | i :: l, a, w, hi, h => by
    have h' : wpOp P ops QF i (fun a' w' => C w' ∧ wpSch P ops C K (l.map fun i => (false, i)) a' w') a w := h
    rw [wpOps_cons]
    exact wpOp_mono (fun a' w' hh => wpOps_of_sch l a' w' (fun j hj => hi j (List.mem_cons_of_mem _ hj)) hh.2) (wpOp_QF h')

theorem wp_region_plain {id : Nat} {Q : Exit → Act → World → Prop} {a : Act} {w : World} (steps : List (Bool × Nat)) (hst : steps = (List.range ops.size).map fun i => (false, i))
    (h : wpSch P ops (fun _ => True) (Q .normal) steps a w) : (Code.region id ops false).wp P Q a w := by
  refine Code.wp_mono (noQ_imp fun _ _ h => h) (wp_region ?_)
  subst hst
  exact wpOps_of_sch _ a w (fun i hi => by simp at hi; simp [hi]) h
end

section
variable {P : Program} {w0 : World} {n : Nat} {S N H : Hp} {l : Fr} {Q : Exit → Act → World → Prop} {ops : Array Oper} {C : World → Prop} {K : Act → World → Prop} {r : List (Bool × Nat)} {i : Nat}

theorem At.plain {id : Nat} (steps : List (Bool × Nat)) (hst : steps = (List.range ops.size).map fun i => (false, i)) (h : At w0 n S l N H (wpSch P ops (fun _ => True) (Q .normal) steps)) :
    At w0 n S l N H ((Code.region id ops false).wp P Q) := fun a w ha hw => wp_region_plain steps hst (h a w ha hw)
theorem At.nil (h : At w0 n S l N H K) : At w0 n S l N H (wpSch P ops C K []) := h

/-- The class holds where this is known. -/
def Cl (w0 : World) (S N H : Hp) (C : World → Prop) : Prop := ∀ w, St w0 w S N H → C w
theorem Cl.all : Cl w0 S N H (fun _ => True) := fun _ _ => trivial
theorem Cl.kept {L : Hp} (h : ∀ e ∈ L, e ∈ S ++ (N ++ H)) : Cl w0 S N H (Kept L) := fun _ hw e he => (Holds.st (h e he)) _ hw
theorem cl_here {a w} (hw : St w0 w S N H) (_ha : Fk n l a) : Kept (S ++ (N ++ H)) w := Cl.kept (fun _ h => h) w hw
/-- A region that draws its order, in the class 'all that is known now holds'. -/
theorem At.drawK {id : Nat} {Q : Exit → Act → World → Prop} (steps : List (Bool × Nat)) (hm : P.follows .mixedOrders = true) (hk : (Region.noSelect ops && (steps.length == ops.size) && schOk .any ops steps (Array.replicate ops.size false)) = true)
    (h : At w0 n S l N H (wpSch P ops (Kept (S ++ (N ++ H))) (Q .normal) steps)) : At w0 n S l N H ((Code.region id ops true).wp P Q) := fun a w ha hw => by
  simp only [Bool.and_eq_true] at hk
  exact wp_region_sch steps hm hk.1.1 (by simpa using hk.1.2) hk.2 (cl_here hw.drew ha) (h a w.drew ha hw.drew)
theorem At.draw2 {id : Nat} {Q : Exit → Act → World → Prop} (pre : List (Bool × Nat)) (i j : Nat) (r1 r2 : List (Bool × Nat)) (hm : P.follows .mixedOrders = true)
    (hk : (Region.noSelect ops && (pre.length + (r1.length + 1) == ops.size) && schOk2 .any ops pre i j r1 r2 (Array.replicate ops.size false)) = true)
    (h : At w0 n S l N H (wpSch P ops (Kept (S ++ (N ++ H))) (fun a w => wpSch P ops (Kept (S ++ (N ++ H))) (Q .normal) ((false, i) :: r1) a w ∧ wpSch P ops (Kept (S ++ (N ++ H))) (Q .normal) ((false, j) :: r2) a w) pre)) :
    At w0 n S l N H ((Code.region id ops true).wp P Q) := fun a w ha hw => by
  simp only [Bool.and_eq_true] at hk
  exact wp_region_sch2 pre i j r1 r2 hm hk.1.1 (by simpa using hk.1.2) hk.2 (cl_here hw.drew ha) (h a w.drew ha hw.drew)
theorem At.both {X Y : Act → World → Prop} (hx : At w0 n S l N H X) (hy : At w0 n S l N H Y) : At w0 n S l N H (fun a w => X a w ∧ Y a w) := fun a w ha hw => ⟨hx a w ha hw, hy a w ha hw⟩
/-- What comes behind is shown once. -/
theorem At.join {α : Type} {Y : Act → World → Prop} (X : Act → World → Prop) (L : α → Fr) (NN : α → Hp) (hK : ∀ x, At w0 n S (L x) (NN x) H X) (h : (∀ x (l' : Fr) (N' : Hp), (∀ t v, look (L x) t = some v → look l' t = some v) → (NN x).Sublist N' → At w0 n S l' N' H X) → At w0 n S l N H Y) : At w0 n S l N H Y :=
  h fun x _ _ hl hN => At.weak hl hN (hK x)
theorem At.s {d : Nat} {o : Oper} {g : Bool} {v : Value} (ho : ops[i]? = some o) (hd : o.dst = some d) (hdn : Nat.blt d n = true) (hg : wantG ops l o = some g) (hC : Cl w0 S N H C) (hr : RunsC P n l C g o v)
    (h : At w0 n S ((d, g, v) :: l) N H (wpSch P ops C K r)) : At w0 n S l N H (wpSch P ops C K ((true, i) :: r)) := fun a w ha hw => by
  have hdn' : d < n := by simpa using hdn
  have hwa := wanted_of ha hg
  cases g with
  | true => exact ⟨o, v, ho, .inl ⟨hwa, fun w' hw' => hr rfl a w' ha hw'⟩, hC w hw, by rw [hd]; exact h _ w (ha.put hdn' rfl) hw⟩
  | false => exact ⟨o, undef, ho, .inr ⟨hwa, rfl⟩, hC w hw, by rw [hd]; exact h _ w (ha.put hdn' rfl) hw⟩
theorem At.sF {d : Nat} {o : Oper} (ho : ops[i]? = some o) (hd : o.dst = some d) (hdn : Nat.blt d n = true) (hg : wantG ops l o = some false) (hC : Cl w0 S N H C)
    (h : At w0 n S ((d, true, undef) :: l) N H (wpSch P ops C K r)) : At w0 n S l N H (wpSch P ops C K ((true, i) :: r)) := fun a w ha hw =>
  ⟨o, undef, ho, .inr ⟨wanted_of ha hg, rfl⟩, hC w hw, by rw [hd]; exact h _ w (ha.put (by simpa using hdn) rfl) hw⟩

theorem At.e {d : Nat} {o : Oper} {g : Bool} {v : Value} (ho : ops[i]? = some o) (hd : o.dst = some d) (hdn : Nat.blt d n = true) (hg : wantG ops l o = some g) (hC : Cl w0 S N H C) (hr : RunsC P n l (fun w => St w0 w S N H) g o v)
    (h : At w0 n S ((d, g, v) :: l) N H (wpSch P ops C K r)) : At w0 n S l N H (wpSch P ops C K ((false, i) :: r)) := fun a w ha hw => by
  have hdn' : d < n := by simpa using hdn
  have hwa := wanted_of ha hg
  show wpOp P ops QF i _ a w
  unfold wpOp
  cases g with
  | true =>
    simp only [ho, hwa, if_true]
    refine .inl ?_
    unfold Oper.wp
    rw [hr rfl a w ha hw, Oper.upon_value, hd]
    exact ⟨hC w hw, h _ w (ha.put hdn' rfl) hw⟩
  | false =>
    simp only [ho, hwa, Bool.false_eq_true, if_false]
    rw [hd]
    exact ⟨hC w hw, h _ w (ha.put hdn' rfl) hw⟩
theorem At.eF {d : Nat} {o : Oper} (ho : ops[i]? = some o) (hd : o.dst = some d) (hdn : Nat.blt d n = true) (hg : wantG ops l o = some false) (hC : Cl w0 S N H C)
    (h : At w0 n S ((d, true, undef) :: l) N H (wpSch P ops C K r)) : At w0 n S l N H (wpSch P ops C K ((false, i) :: r)) := fun a w ha hw => by
  show wpOp P ops QF i _ a w
  unfold wpOp
  simp only [ho, wanted_of ha hg, Bool.false_eq_true, if_false]
  rw [hd]
  exact ⟨hC w hw, h _ w (ha.put (by simpa using hdn) rfl) hw⟩

/-- An operation that changes the world. -/
theorem At.eW {d : Option Nat} {o : Oper} (ho : ops[i]? = some o) (hg : wantG ops l o = some true)
    (h : ∀ a w, Fk n l a → St w0 w S N H → Oper.wp P o a w (fun a' w' => C w' ∧ wpSch P ops C K r a' w') QF) (_hd : o.dst = d := by rfl) :
    At w0 n S l N H (wpSch P ops C K ((false, i) :: r)) := fun a w ha hw => by
  show wpOp P ops QF i _ a w
  unfold wpOp
  simp only [ho, wanted_of ha hg, if_true]
  exact .inl (h a w ha hw)
end

/-! ### Calls -/
/-- May the function be called (it has a body, and is none that the machine takes itself)? -/
def Callable (P : Program) (f : FuncId) : Prop := ∃ fn, P.funcs[f]? = some fn ∧ (fn.name == "runtime.NumGoroutine") = false ∧ fn.body.isNone = false
/-- What a call comes to. -/
def PostOf (w0 : World) (S : Hp) (R : Value → Hp → Hp → Prop) : Ending → World → Prop := fun e w' => ∃ v N' H', R v N' H' ∧ e = .returned v ∧ St w0 w' S N' H'
/-- A function's contract: where S and H hold it returns a value of which, and of what lies then, R says all. -/
def Fn (P : Program) (f : FuncId) (args : List Value) (S H : Hp) (R : Value → Hp → Hp → Prop) : Prop :=
  Callable P f ∧ ∀ w, St w w S [] H → Calls P f args.toArray w (PostOf w S R)

def numbered : Nat → List Value → Fr
  | _, [] => []
  | k, v :: r => (k, true, v) :: numbered (k + 1) r
theorem look_numbered : ∀ (vs : List Value) (k t : Nat), look (numbered k vs) t = if k ≤ t then (vs[t - k]?).map (fun v => (true, v)) else none
  | [], k, t => by simp [numbered, look]
  | v :: vs, k, t => by
    simp only [numbered, look]
    by_cases h : k = t
    · subst h; simp
    · simp only [h, if_false]
      rw [look_numbered vs (k + 1) t]
      by_cases h1 : k + 1 ≤ t
      · have : t - k = (t - (k + 1)) + 1 := by omega
        rw [if_pos h1, if_pos (by omega), this]; simp
      · rw [if_neg h1, if_neg (by omega)]

theorem Fn.enter {P : Program} {f : FuncId} {fn : Func} {c : Code} {args : List Value} {S H : Hp} {R : Value → Hp → Hp → Prop} {n : Nat} {l0 : Fr} (hf : P.funcs[f]? = some fn) (hname : (fn.name == "runtime.NumGoroutine") = false)
    (hb : fn.body = some c) (hn : max fn.ntmps args.length = n) (hl : numbered 0 args = l0) (h : ∀ w, At w n S l0 [] H (c.wp P (bodyPost P fn (PostOf w S R)))) (hd : (Df.ds : List Deferred) = [] := by rfl) : Fn P f args S H R := by
  refine ⟨⟨fn, hf, hname, by simp [hb]⟩, fun w hw => calls_of_wp hf hb (h w _ w ?_ hw)⟩
  subst hl hn
  refine ⟨by simp; omega, hd.symm, fun t g v ht => ?_⟩
  rw [look_numbered] at ht
  simp only [Nat.zero_le, if_true, Nat.sub_zero, Option.map_eq_some_iff, Prod.mk.injEq] at ht
  obtain ⟨u, ht, rfl, rfl⟩ := ht
  have hlt : t < args.length := (List.getElem?_eq_some_iff.1 ht).1
  have hv : args[t] = u := by rw [List.getElem?_eq_getElem hlt] at ht; injection ht
  simp [Array.getElem?_append, hlt, hv]

def resOf (tmps : Array Value) : ResultVar → Sem Value
  | .tmp t => pure (tmps.getD t undef)
  | .cell a t => do loadVar t (← asAddr (tmps.getD a undef))
theorem results_eq (fn : Func) (tmps : Array Value) : results fn tmps = (do
    let vs ← fn.results.mapM (resOf tmps)
    pure (if h : vs.size = 1 then vs[0] else .tuple vs)) := by
  unfold results
  congr 1
/-- What a result's place holds. -/
def ResV (P : Program) (w0 : World) (n : Nat) (S N H : Hp) (l : Fr) (r : ResultVar) (v : Value) : Prop :=
  ∀ a w, Fk n l a → St w0 w S N H → (resOf a.tmps r).run P w = .ok v w
section
variable {P : Program} {w0 : World} {n : Nat} {S N H : Hp} {l : Fr}
theorem ResV.t {t : Tmp} {v : Value} (h : look l t = some (true, v)) : ResV P w0 n S N H l (.tmp t) v := fun a w ha _ => by
  have := (ha.slot t _ v h).trans (if_pos rfl)
  simp only [resOf, this]; rfl
theorem ResV.c {t : Tmp} {T : TypeId} {D : TypeDesc} {b i : Nat} {v : Value} (hT : P.underlying T = some D) (hD : plainD D = true) (h : look l t = some (true, .pointer (some ⟨b, i, none⟩))) (hc : CellIn (fun w => St w0 w S N H) b i v) : ResV P w0 n S N H l (.cell t T) v := fun a w ha hw => by
  have h1 := (ha.slot t _ _ h).trans (if_pos rfl)
  have h2 := run_isAgg hT w
  rw [hD] at h2
  simp [resOf, h1, asAddr, loadVar, h2, hc w hw]
theorem ResV.a {t : Tmp} {T : TypeId} {D : TypeDesc} {b i : Nat} {vs : List Value} (hT : P.underlying T = some D) (hD : plainD D = false) (hs : (P.info? T).map (·.size) = some vs.length) (h : look l t = some (true, .pointer (some ⟨b, i, none⟩))) (hc : CellsIn (fun w => St w0 w S N H) b i vs) :
    ResV P w0 n S N H l (.cell t T) (.agg vs.toArray) := fun a w ha hw => by
  have h1 := (ha.slot t _ _ h).trans (if_pos rfl)
  have h2 := run_isAgg hT w
  rw [hD] at h2
  have h3 := run_sizeOf hs w
  have h4 := run_loadCellsFrom P (b := b) (i := i) vs 0 #[] (fun j v hv => by have := hc w hw j v hv; rw [← this]; congr 2; omega)
  simp only [List.append_toArray, List.nil_append] at h4
  simp [resOf, h1, asAddr, loadVar, h2, h3, loadCells, h4]
end

theorem At.final {P : Program} {w0 : World} {n : Nat} {S N H : Hp} {l : Fr} {fn : Func} {R : Value → Hp → Hp → Prop} {t : ResultVar} {v : Value} {N' : Hp} (hr : fn.results = #[t]) (hv : ResV P w0 n S N H l t v) (hN : N'.Sublist N) (hR : R v N' H) (hd : (Df.ds : List Deferred) = [] := by rfl) :
    At w0 n S l N H (bodyPost P fn (PostOf w0 S R) .ret) := fun a w ha hw =>
  ⟨ha.defers.trans hd, v, by
    have := hv a w ha hw
    rw [results_eq, hr]
    simp [this], v, N', H, hR, rfl, hw.forget hN⟩
theorem At.final2 {P : Program} {w0 : World} {n : Nat} {S N H : Hp} {l : Fr} {fn : Func} {R : Value → Hp → Hp → Prop} {t u : ResultVar} {v x : Value} {N' : Hp} (hr : fn.results = #[t, u]) (hv : ResV P w0 n S N H l t v) (hx : ResV P w0 n S N H l u x)
    (hN : N'.Sublist N) (hR : R (.tuple #[v, x]) N' H) (hd : (Df.ds : List Deferred) = [] := by rfl) : At w0 n S l N H (bodyPost P fn (PostOf w0 S R) .ret) := fun a w ha hw =>
  ⟨ha.defers.trans hd, .tuple #[v, x], by
    have h1 := hv a w ha hw
    have h2 := hx a w ha hw
    rw [results_eq, hr]
    simp [h1, h2], .tuple #[v, x], N', H, hR, rfl, hw.forget hN⟩
theorem At.final0 {P : Program} {w0 : World} {n : Nat} {S N H : Hp} {l : Fr} {fn : Func} {R : Value → Hp → Hp → Prop} {N' : Hp} (hr : fn.results = #[]) (hN : N'.Sublist N) (hR : R (.tuple #[]) N' H) (e : Exit) (he : e = .ret ∨ e = .normal) (hd : (Df.ds : List Deferred) = [] := by rfl) :
    At w0 n S l N H (bodyPost P fn (PostOf w0 S R) e) := fun a w ha hw => by
  have : a.defers = [] ∧ ∃ v, (results fn a.tmps).run P w = .ok v w ∧ PostOf w0 S R (.returned v) w :=
    ⟨ha.defers.trans hd, .tuple #[], by simp [results, hr], .tuple #[], N', H, hR, rfl, hw.forget hN⟩
  rcases he with rfl | rfl <;> exact this

theorem run_call {P : Program} {n : Nat} {l : Fr} {a : Act} {w : World} {g0 : Bool} (hg0 : g0 = true) (ha : Fk n l a) {fx : Operand} {xs : List Operand} {ats : Array TypeId} {f : FuncId} {fst cap : Array Value} {vs : List Value} (hf : Ev n l g0 fx (.func (.func f) fst cap))
    (hxs : Evs n l g0 xs vs) (hcl : Callable P f) (d : Option Tmp) (ty : TypeId) (pos : String) (af : Array Edge) (g : Option (Nat × Bool)) :
    (execOp a.eval ⟨d, .call { callee := .value fx, args := xs.toArray, argTypes := ats }, ty, pos, af, g⟩).run P w = .ok (.enter f (fst ++ vs.toArray ++ cap)) w := by
  obtain ⟨fn, h1, h2, h3⟩ := hcl
  have h4 : Array.map a.eval xs.toArray = vs.toArray := by rw [List.map_toArray, hxs.eq hg0 ha]
  have h2' : ¬ fn.name = "runtime.NumGoroutine" := by simpa using h2
  have h3' : ¬ fn.body = none := fun e => by rw [e] at h3; cases h3
  simp [execOp, resolve, hf.eq hg0 ha, h4, Deferred.ofValue, invoke, callFunc, h1, h2', h3']

section
variable {P : Program} {w0 : World} {n : Nat} {S N H : Hp} {l : Fr} {ops : Array Oper} {C : World → Prop} {K : Act → World → Prop} {r : List (Bool × Nat)} {i : Nat}

/-- A call of a function that leaves what there is as it is. -/
theorem At.callP {d : Nat} {fx : Operand} {xs : List Operand} {ats : Array TypeId} {ty : TypeId} {pos : String} {af : Array Edge} {gd : Option (Nat × Bool)} {f : FuncId} {fst cap : List Value} {vs args : List Value} {S' : Hp} {R : Value → Hp → Hp → Prop}
    (ho : ops[i]? = some ⟨some d, .call { callee := .value fx, args := xs.toArray, argTypes := ats }, ty, pos, af, gd⟩) (hdn : Nat.blt d n = true) (hg : wantG ops l ⟨some d, .call { callee := .value fx, args := xs.toArray, argTypes := ats }, ty, pos, af, gd⟩ = some true)
    (hf : Ev n l true fx (.func (.func f) fst.toArray cap.toArray)) (hxs : Evs n l true xs vs) (hargs : fst ++ vs ++ cap = args) (hc : Fn P f args S' [] R)
    (hS : ∀ e ∈ S', ∀ w, St w0 w S N H → e.holds w)
    (h : ∀ v N' H', R v N' H' → H' = [] ∧ Cl w0 S (N' ++ N) H C ∧ At w0 n S ((d, true, v) :: l) (N' ++ N) H (wpSch P ops C K r)) : At w0 n S l N H (wpSch P ops C K ((false, i) :: r)) :=
  At.eW (d := some d) ho hg fun a w ha hw => by
    unfold Oper.wp
    rw [run_call rfl ha hf hxs hc.1, Oper.upon_enter]
    have hw' : St w w S' [] [] := St.refl (by simp) (fun e he => hS e he w hw) (by simp [keys]) (by simp [keys])
    have hcall := hc.2 w hw'
    have e1 : fst.toArray ++ vs.toArray ++ cap.toArray = args.toArray := by rw [← hargs]; simp
    rw [e1]
    refine hcall.mono ?_
    rintro e w' ⟨v, N', H', hR, rfl, hst⟩
    obtain ⟨rfl, hcl, hat⟩ := h v N' H' hR
    have := hw.pure hst
    exact ⟨hcl w' this, hat _ w' (ha.put (by simpa using hdn) rfl) this⟩

/-- The same behind a guard, where the value is known ahead. -/
theorem At.callG {d : Nat} {fx : Operand} {xs : List Operand} {ats : Array TypeId} {ty : TypeId} {pos : String} {af : Array Edge} {gd : Option (Nat × Bool)} {g : Bool} {f : FuncId} {fst cap : List Value} {vs args : List Value} {S' : Hp} {R : Value → Hp → Hp → Prop} {v0 : Value}
    (ho : ops[i]? = some ⟨some d, .call { callee := .value fx, args := xs.toArray, argTypes := ats }, ty, pos, af, gd⟩) (hdn : Nat.blt d n = true) (hg : wantG ops l ⟨some d, .call { callee := .value fx, args := xs.toArray, argTypes := ats }, ty, pos, af, gd⟩ = some g)
    (hf : Ev n l g fx (.func (.func f) fst.toArray cap.toArray)) (hxs : Evs n l g xs vs) (hargs : fst ++ vs ++ cap = args) (hc : g = true → Fn P f args S' [] R)
    (hS : ∀ e ∈ S', ∀ w, St w0 w S N H → e.holds w) (hR : g = true → ∀ v N' H', R v N' H' → H' = [] ∧ v = v0) (hC : Cl w0 S N H C)
    (h : At w0 n S ((d, g, v0) :: l) N H (wpSch P ops C K r)) : At w0 n S l N H (wpSch P ops C K ((false, i) :: r)) := fun a w ha hw => by
  have hdn' : d < n := by simpa using hdn
  have hwa := wanted_of ha hg
  show wpOp P ops QF i _ a w
  unfold wpOp
  cases g with
  | false =>
    simp only [ho, hwa, Bool.false_eq_true, if_false]
    exact ⟨hC w hw, h _ w (ha.put hdn' rfl) hw⟩
  | true =>
    simp only [ho, hwa, if_true]
    refine .inl ?_
    unfold Oper.wp
    rw [run_call rfl ha hf hxs (hc rfl).1, Oper.upon_enter]
    have hw' : St w w S' [] [] := St.refl (by simp) (fun e he => hS e he w hw) (by simp [keys]) (by simp [keys])
    have hcall := (hc rfl).2 w hw'
    have e1 : fst.toArray ++ vs.toArray ++ cap.toArray = args.toArray := by rw [← hargs]; simp
    rw [e1]
    refine hcall.mono ?_
    rintro e w' ⟨v, N', H', hR', rfl, hst⟩
    obtain ⟨rfl, rfl⟩ := hR rfl v N' H' hR'
    have := (hw.pure hst).forget (List.sublist_append_right N' N)
    exact ⟨hC w' this, h _ w' (ha.put hdn' rfl) this⟩

def setFrom (cs : Array Value) : Nat → List Value → Array Value
  | _, [] => cs
  | i, v :: vs => setFrom (cs.setIfInBounds i v) (i + 1) vs
/-- A store of several cells. -/
theorem run_storeCells (P : Program) {b : Nat} {E : TypeId} : ∀ (vs : List Value) (k j : Nat) (w : World) (cs : Array Value), w.heap[b]? = some (.cells cs E (0, 0)) → j + k + vs.length ≤ cs.size → (∀ v ∈ vs, v.oneCell' = true) →
    ∃ w', (storeCells ⟨b, j, none⟩ vs k).run P w = .ok () w' ∧ w'.heap[b]? = some (.cells (setFrom cs (j + k) vs) E (0, 0)) ∧
      w'.os = w.os ∧ w'.tape = w.tape ∧ w'.output = w.output ∧ w'.heap.size = w.heap.size ∧ ∀ i, i ≠ b → w'.heap[i]? = w.heap[i]?
  | [], k, j, w, cs, hb, _, _ => ⟨w, by simp [storeCells], hb, rfl, rfl, rfl, rfl, fun _ _ => rfl⟩
  | v :: vs, k, j, w, cs, hb, hl, ho => by
    simp only [List.length_cons] at hl
    have hc : w.cell? ⟨b, j + k, none⟩ = some (cs[j + k]'(by omega)) := cell_of_blk hb (Array.getElem?_eq_getElem (by omega))
    have hf : w.frozen? ⟨b, j + k, none⟩ = false := by simp [World.frozen?, hb]
    have h1 : (Go.store ⟨b, j + k, none⟩ v).run P w = .ok () (w.setCell ⟨b, j + k, none⟩ v) := by
      have hone := ho v (by simp)
      cases v <;> first | (cases hone; done) | (simp [Go.store, Sem.run, hc, hf])
    obtain ⟨w', h2, h3, h4, h5, h6, h7, h8⟩ := run_storeCells P vs (k + 1) j (w.setCell ⟨b, j + k, none⟩ v) (cs.setIfInBounds (j + k) v) (heap_setCell_same hb v) (by simp; omega) (fun u hu => ho u (List.mem_cons_of_mem _ hu))
    exact ⟨w', by simp [storeCells, add_addr, h1, h2], h3, h4, h5, h6, by rw [h7]; simp [World.setCell], fun i hi => by rw [h8 i hi]; exact heap_setCell_ne v hi⟩

/-- A contract of a function that answers one value and leaves all as it was. -/
def IsV (x : Value) : Value → Hp → Hp → Prop := fun v N H => v = x ∧ N = [] ∧ H = []
theorem At.callV {d : Nat} {xs : List Operand} {ats : Array TypeId} {ty : TypeId} {pos : String} {af : Array Edge} {gd : Option (Nat × Bool)} {g : Bool} {f : FuncId} {vs : List Value} {S' : Hp} {v0 : Value}
    (ho : ops[i]? = some ⟨some d, .call { callee := .value (.func f), args := xs.toArray, argTypes := ats }, ty, pos, af, gd⟩) (hdn : Nat.blt d n = true) (hg : wantG ops l ⟨some d, .call { callee := .value (.func f), args := xs.toArray, argTypes := ats }, ty, pos, af, gd⟩ = some g)
    (hxs : Evs n l g xs vs) (hc : g = true → Fn P f vs S' [] (IsV v0)) (hS : ∀ e ∈ S', ∀ w, St w0 w S N H → e.holds w) (hC : Cl w0 S N H C)
    (h : At w0 n S ((d, g, v0) :: l) N H (wpSch P ops C K r)) : At w0 n S l N H (wpSch P ops C K ((false, i) :: r)) :=
  At.callG (fst := []) (cap := []) (args := vs) ho hdn hg Ev.f hxs (by simp) hc hS (fun _ v N' H' hR => ⟨hR.2.2, hR.1⟩) hC h

theorem At.box {d : Nat} {x : Operand} {T ty : TypeId} {pos : String} {af : Array Edge} {gd : Option (Nat × Bool)} {v : Value} (ho : ops[i]? = some ⟨some d, .box T x, ty, pos, af, gd⟩) (hdn : Nat.blt d n = true)
    (hg : wantG ops l ⟨some d, .box T x, ty, pos, af, gd⟩ = some true) (hx : Ev n l true x v)
    (h : ∀ b, w0.heap.size ≤ b → Cl w0 S (.blk b (.cells v.cells T) :: N) H C ∧ At w0 n S ((d, true, .pointer (some ⟨b, 0, none⟩)) :: l) (.blk b (.cells v.cells T) :: N) H (wpSch P ops C K r)) :
    At w0 n S l N H (wpSch P ops C K ((false, i) :: r)) :=
  At.eW (d := some d) ho hg fun a w ha hw => by
    unfold Oper.wp
    have hrun : (execOp a.eval ⟨some d, .box T x, ty, pos, af, gd⟩).run P w = .ok (.value (.pointer (some ⟨w.heap.size, 0, none⟩))) (w.alloc (.cells v.cells T)) := by
      simp [execOp, hx rfl a ha, Instr.box, newVar, newRow]
    rw [hrun, Oper.upon_value]
    obtain ⟨h1, h2⟩ := h w.heap.size hw.size
    have := hw.alloc (.cells v.cells T)
    exact ⟨h1 _ this, h2 _ _ (ha.put (by simpa using hdn) rfl) this⟩

theorem At.alloc {d : Nat} {T ty : TypeId} {pos : String} {af : Array Edge} {gd : Option (Nat × Bool)} {z : Value} (ho : ops[i]? = some ⟨some d, .alloc T, ty, pos, af, gd⟩) (hdn : Nat.blt d n = true)
    (hg : wantG ops l ⟨some d, .alloc T, ty, pos, af, gd⟩ = some true) (hz : (P.info? T).bind (·.zero) = some z)
    (h : ∀ b, w0.heap.size ≤ b → Cl w0 S (.blk b (.cells z.cells T) :: N) H C ∧ At w0 n S ((d, true, .pointer (some ⟨b, 0, none⟩)) :: l) (.blk b (.cells z.cells T) :: N) H (wpSch P ops C K r)) :
    At w0 n S l N H (wpSch P ops C K ((false, i) :: r)) :=
  At.eW (d := some d) ho hg fun a w ha hw => by
    unfold Oper.wp
    have hrun : (execOp a.eval ⟨some d, .alloc T, ty, pos, af, gd⟩).run P w = .ok (.value (.pointer (some ⟨w.heap.size, 0, none⟩))) (w.alloc (.cells z.cells T)) := by
      cases hi : P.info? T with
      | none => rw [hi] at hz; cases hz
      | some inf => rw [hi] at hz; simp at hz; simp [execOp, Instr.alloc, zeroValue, typeInfo, hi, hz, newVar, newRow]
    rw [hrun, Oper.upon_value]
    obtain ⟨h1, h2⟩ := h w.heap.size hw.size
    have := hw.alloc (.cells z.cells T)
    exact ⟨h1 _ this, h2 _ _ (ha.put (by simpa using hdn) rfl) this⟩

/-- A store of one cell. -/
theorem At.st1 {p x : Operand} {T ty : TypeId} {pos : String} {af : Array Edge} {gd : Option (Nat × Bool)} {b j : Nat} {v : Value} {cs : Array Value} {E : TypeId} {N' H' : Hp} (ho : ops[i]? = some ⟨none, .store T p x, ty, pos, af, gd⟩)
    (hg : wantG ops l ⟨none, .store T p x, ty, pos, af, gd⟩ = some true) (hs : (P.info? T).map (·.size) = some 1) (hp : Ev n l true p (.pointer (some ⟨b, j, none⟩))) (hx : Ev n l true x v) (hone : v.oneCell' = true) (hj : Nat.blt j cs.size = true)
    (hu : Up N H (.blk b (.cells cs E (0, 0))) (.blk b (.cells (cs.setIfInBounds j v) E (0, 0))) N' H')
    (h : Cl w0 S N' H' C ∧ At w0 n S l N' H' (wpSch P ops C K r)) : At w0 n S l N H (wpSch P ops C K ((false, i) :: r)) :=
  At.eW (d := none) ho hg fun a w ha hw => by
    have hm : Ent.blk b (.cells cs E (0, 0)) ∈ N ++ H := by cases hu with | n hl => exact List.mem_append_left _ hl.mem | h hl => exact List.mem_append_right _ hl.mem
    have hb : w.heap[b]? = some (.cells cs E (0, 0)) := hw.has _ hm
    have hjl : j < cs.size := by simpa using hj
    have hc : w.cell? ⟨b, j, none⟩ = some (cs[j]'hjl) := cell_of_blk hb (Array.getElem?_eq_getElem hjl)
    have hf : w.frozen? ⟨b, j, none⟩ = false := by simp [World.frozen?, hb]
    have hv : v.cells = #[v] := by cases v <;> first | rfl | cases hone
    have hrun : (execOp a.eval ⟨none, .store T p x, ty, pos, af, gd⟩).run P w = .ok .skip (w.setCell ⟨b, j, none⟩ v) := by
      have h1 : (Go.store ⟨b, j, none⟩ v).run P w = .ok () (w.setCell ⟨b, j, none⟩ v) := by
        cases v <;> first | (cases hone; done) | (simp [Go.store, Sem.run, hc, hf])
      simp [execOp, hp rfl a ha, hx rfl a ha, Instr.storeAt, Instr.sureAddr, storeVar, run_sizeOf hs, hv, storeCells, add_addr, h1]
    unfold Oper.wp
    rw [hrun, Oper.upon_skip]
    have := hw.setCell (v := v) hu
    exact ⟨h.1 _ this, h.2 _ _ ha this⟩

theorem At.stN {p x : Operand} {T ty : TypeId} {pos : String} {af : Array Edge} {gd : Option (Nat × Bool)} {b j m : Nat} {vs : List Value} {cs : Array Value} {E : TypeId} {N' H' : Hp} (ho : ops[i]? = some ⟨none, .store T p x, ty, pos, af, gd⟩)
    (hg : wantG ops l ⟨none, .store T p x, ty, pos, af, gd⟩ = some true) (hs : (P.info? T).map (·.size) = some m) (hp : Ev n l true p (.pointer (some ⟨b, j, none⟩))) (hx : Ev n l true x (.agg vs.toArray)) (hone : (vs.all fun v => v.oneCell') = true) (hj : Nat.ble (j + m) cs.size = true) (hj2 : vs.length = m)
    (hu : Up N H (.blk b (.cells cs E (0, 0))) (.blk b (.cells (setFrom cs j vs) E (0, 0))) N' H')
    (h : Cl w0 S N' H' C ∧ At w0 n S l N' H' (wpSch P ops C K r)) : At w0 n S l N H (wpSch P ops C K ((false, i) :: r)) :=
  At.eW (d := none) ho hg fun a w ha hw => by
    have hj1 : j + m ≤ cs.size := by simpa using hj
    have hm : Ent.blk b (.cells cs E (0, 0)) ∈ N ++ H := by cases hu with | n hl => exact List.mem_append_left _ hl.mem | h hl => exact List.mem_append_right _ hl.mem
    obtain ⟨w', h2, h3, h4, h5, h6, h7, h8⟩ := run_storeCells P vs 0 j w cs (hw.has _ hm) (by omega) (fun v hv => by simpa using (List.all_eq_true.1 hone v hv))
    have hv : (Value.agg vs.toArray).cells = vs.toArray := rfl
    have hrun : (execOp a.eval ⟨none, .store T p x, ty, pos, af, gd⟩).run P w = .ok .skip w' := by
      simp [execOp, hp rfl a ha, hx rfl a ha, Instr.storeAt, Instr.sureAddr, storeVar, run_sizeOf hs, hv, hj2, h2]
    unfold Oper.wp
    rw [hrun, Oper.upon_skip]
    have := hw.upd hu rfl (show w'.heap[b]? = _ from h3) h4 h5 h6 (by omega) fun k _ hk => h8 k fun e => hk (by rw [e]; rfl)
    exact ⟨h.1 _ this, h.2 _ _ ha this⟩
end

theorem wf_bd_u8 {n : Int} (h : (Lit.int .u8 n).wf = true) : 0 ≤ n ∧ n ≤ 255 := by simp [Lit.wf, IntKind.min, IntKind.max, IntKind.signed, IntKind.bits] at h; omega
theorem wf_bd_u16 {n : Int} (h : (Lit.int .u16 n).wf = true) : 0 ≤ n ∧ n ≤ 65535 := by simp [Lit.wf, IntKind.min, IntKind.max, IntKind.signed, IntKind.bits] at h; omega
theorem wf_bd_i64 {n : Int} (h : (Lit.int .i64 n).wf = true) : -9223372036854775808 ≤ n ∧ n ≤ 9223372036854775807 := by simp [Lit.wf, IntKind.min, IntKind.max, IntKind.signed, IntKind.bits] at h; omega

end Go.Proofs.Ytimclnhklaldfaa
