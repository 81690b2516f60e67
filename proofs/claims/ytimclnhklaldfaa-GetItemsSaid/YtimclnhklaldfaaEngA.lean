/- The verifier's own engine, first part: what is known of a frame and of the memory, as lists; operations that only compute or read. -/
import Derived.WalkKit
import Derived.WalkSpells
import Derived.WalkLawsBesides
import Derived.OrdersHeld
import Derived.IntWalk
namespace Go.Proofs.Ytimclnhklaldfaa
open Go Go.RowKit
/-- Calls that stand deferred: none, but behind a range over a function. -/
class Df where
  ds : List Deferred
@[reducible] instance (priority := low) noDf : Df := ⟨[]⟩
set_option linter.unusedSectionVars false
variable [Df]

/-- A slice that is only read: its value v reads as xs (sz cells an element). -/
def RdIs (w : World) (v : Value) (sz n : Nat) (xs : List Value) : Prop :=
  ∃ A cap, v = .slice A n cap ∧ n ≤ cap ∧ cap ≤ maxLen ∧ xs.length = n * sz ∧
    (0 < n → ∃ b o, A = some ⟨b, o, none⟩ ∧ b < w.heap.size ∧ ∀ j u, xs[j]? = some u → w.cell? ⟨b, o + j, none⟩ = some u)

/-- What is known of memory: a block as it lies, a row that the call owns, a slice that is only read. -/
inductive Ent where
  | blk (b : Nat) (o : Obj)
  | row (v : Value) (E sz n : Nat) (xs : List Value)
  | rd (v : Value) (sz n : Nat) (xs : List Value)

/-- The block that it lies in, if any. -/
def Ent.key : Ent → Option Nat
  | .blk b _ => some b
  | .row v _ _ _ _ => v.ownBlock
  | .rd v _ n _ => if n = 0 then none else v.ownBlock

def Ent.holds (w : World) : Ent → Prop
  | .blk b o => w.heap[b]? = some o
  | .row v E sz n xs => w.ownsRow 0 E sz v n xs
  | .rd v sz n xs => RdIs w v sz n xs

abbrev Hp := List Ent

abbrev keys (l : Hp) : List Nat := l.filterMap Ent.key

/-- w comes behind w0: N lies in new blocks, H in old ones that may be written, S is only read; all other old blocks are as they were. -/
structure St (w0 w : World) (S N H : Hp) : Prop where
  os : w.os = w0.os
  tape : w.tape = w0.tape
  output : w.output = w0.output
  size : w0.heap.size ≤ w.heap.size
  has : ∀ e ∈ N ++ H, e.holds w
  hasS : ∀ e ∈ S, e.holds w
  nodup : (keys (N ++ H)).Nodup
  apart : ∀ k ∈ keys S, k ∉ keys (N ++ H)
  fresh : ∀ e ∈ N, ∀ k, e.key = some k → w0.heap.size ≤ k
  old : ∀ b, b < w0.heap.size → b ∉ keys H → w.heap[b]? = w0.heap[b]?

/-- What is known of slots: (t, g, v): where g is true slot t holds v. -/
abbrev Fr := List (Nat × Bool × Value)
def look : Fr → Nat → Option (Bool × Value)
  | [], _ => none
  | (k, gv) :: r, t => if k = t then some gv else look r t
/-- What is known of the frame. -/
structure Fk (n : Nat) (l : Fr) (a : Act) : Prop where
  size : a.tmps.size = n
  defers : a.defers = Df.ds
  slot : ∀ t g v, look l t = some (g, v) → a.tmps.getD t undef = if g = true then v else undef

theorem Fk.put {n d : Nat} {l : Fr} {a : Act} {g : Bool} {v u : Value} (h : Fk n l a) (hd : d < n) (hv : u = if g = true then v else undef) : Fk n ((d, g, v) :: l) (a.put (some d) u) := by
  refine ⟨by simp [Act.put, h.size], h.defers, fun t g' u' ht => ?_⟩
  simp only [look] at ht
  split at ht
  · rename_i e; subst e
    simp only [Option.some.injEq, Prod.mk.injEq] at ht
    obtain ⟨rfl, rfl⟩ := ht
    simp [Act.put, Array.getD_eq_getD_getElem?, h.size, hd, hv]
  · rename_i e
    have := h.slot t g' u' ht
    simp [Act.put, Array.getD_eq_getD_getElem?, e] at this ⊢
    exact this
theorem Fk.putT {n d : Nat} {l : Fr} {a : Act} {v : Value} (h : Fk n l a) (hd : d < n) : Fk n ((d, true, v) :: l) (a.put (some d) v) := h.put hd rfl
theorem Fk.weak {n : Nat} {l l' : Fr} {a : Act} (h : Fk n l a) (hl : ∀ t v, look l' t = some v → look l t = some v) : Fk n l' a :=
  ⟨h.size, h.defers, fun t g v ht => h.slot t g v (hl t _ ht)⟩

/-- Where g is true the operand is v. -/
def Ev (n : Nat) (l : Fr) (g : Bool) (x : Operand) (v : Value) : Prop := g = true → ∀ a, Fk n l a → a.eval x = v
section
variable {n : Nat} {l : Fr} {g : Bool}
theorem Ev.t {t : Nat} {v : Value} (h : look l t = some (true, v)) : Ev n l g (.tmp t) v := fun _ _ ha => (ha.slot t _ v h).trans (if_pos rfl)
theorem Ev.s {t : Nat} {v : Value} (h : look l t = some (g, v)) : Ev n l g (.tmp t) v := fun hg _ ha => (ha.slot t _ v h).trans (if_pos hg)
theorem Ev.i {t : Nat} {g' : Bool} {v : Value} (h : look l t = some (g', v)) (hi : g = true → g' = true) : Ev n l g (.tmp t) v := fun hg _ ha => (ha.slot t _ v h).trans (if_pos (hi hg))
theorem Ev.c {v : Value} : Ev n l g (.const v) v := fun _ _ _ => rfl
theorem Ev.f {f : FuncId} : Ev n l g (.func f) (.func (.func f) #[] #[]) := fun _ _ _ => rfl
theorem Ev.gl {k : Nat} : Ev n l g (.global k) (.pointer (some ⟨k, 0, none⟩)) := fun _ _ _ => rfl
theorem Ev.eq {x : Operand} {v : Value} (h : Ev n l g x v) (hg : g = true) {a : Act} (ha : Fk n l a) : a.eval x = v := h hg a ha
end

/-- The operands are these values. -/
inductive Evs (n : Nat) (l : Fr) (g : Bool) : List Operand → List Value → Prop
  | nil : Evs n l g [] []
  | cons {x : Operand} {v : Value} {xs : List Operand} {vs : List Value} : Ev n l g x v → Evs n l g xs vs → Evs n l g (x :: xs) (v :: vs)
theorem Evs.eq {n : Nat} {l : Fr} {g : Bool} {xs : List Operand} {vs : List Value} (h : Evs n l g xs vs) (hg : g = true) {a : Act} (ha : Fk n l a) : xs.map a.eval = vs := by
  induction h with
  | nil => rfl
  | cons h1 _ ih => simp [h1.eq hg ha, ih]

/-- Is the operation wanted? Its guard's slot is known. -/
def wantG (ops : Array Oper) (l : Fr) (o : Oper) : Option Bool :=
  match o.guard with
  | none => some true
  | some (j, want) => match (ops[j]?).bind (·.dst) with
    | none => none
    | some d => match look l d with
      | some (g, .bool c) => some (g && (c == want))
      | _ => none

theorem undef_ne_bool (c : Bool) : undef ≠ .bool c := by simp [undef]

theorem wanted_of {n : Nat} {ops : Array Oper} {l : Fr} {a : Act} {o : Oper} {g : Bool} (h : Fk n l a) (hw : wantG ops l o = some g) : Region.wanted o (yielded ops a.tmps) = g := by
  unfold wantG at hw
  unfold Region.wanted
  split at hw
  · rename_i hg; simp [hg] at hw ⊢; exact hw
  · rename_i j want hg
    simp only [hg]
    split at hw
    · cases hw
    · rename_i d hd
      split at hw
      · rename_i g1 c hl
        injection hw with hw
        subst hw
        cases g1 with
        | true =>
          have h1 : a.tmps.getD d undef = .bool c := (h.slot d _ _ hl).trans (if_pos rfl)
          have h2 : a.tmps[d]? = some (.bool c) := by
            rw [Array.getD_eq_getD_getElem?] at h1
            cases hq : a.tmps[d]? with
            | none => rw [hq] at h1; exact absurd h1 (undef_ne_bool c)
            | some u => rw [hq] at h1; simp at h1; rw [h1]
          simp only [yielded, hd, Option.bind_some, h2]
          cases c <;> cases want <;> rfl
        | false =>
          have h1 : a.tmps.getD d undef = undef := (h.slot d _ _ hl).trans (if_neg Bool.false_ne_true)
          have h2 : ∀ c', a.tmps[d]? ≠ some (.bool c') := fun c' e => by
            rw [Array.getD_eq_getD_getElem?, e] at h1
            exact undef_ne_bool c' h1.symm
          have h3 : yielded ops a.tmps j = none := by
            simp only [yielded, hd, Option.bind_some]
          rw [h3]; rfl
      · cases hw

/-- Of each world of a class: where g is true the operation leaves v and the world as it was. -/
def RunsC (P : Program) (n : Nat) (l : Fr) (C : World → Prop) (g : Bool) (o : Oper) (v : Value) : Prop :=
  g = true → ∀ a w, Fk n l a → C w → (execOp a.eval o).run P w = .ok (.value v) w

/-- .. a cell holds v. -/
def CellIn (C : World → Prop) (b i : Nat) (v : Value) : Prop := ∀ w, C w → w.cell? ⟨b, i, none⟩ = some v

theorem cell_of_blk {w : World} {b i : Nat} {cs : Array Value} {T : TypeId} {fz : Nat × Nat} {v : Value} (h : w.heap[b]? = some (.cells cs T fz)) (hc : cs[i]? = some v) : w.cell? ⟨b, i, none⟩ = some v := by
  simp [World.cell?, h, hc]

/-- In each world of a class an entry holds. -/
def Holds (C : World → Prop) (e : Ent) : Prop := ∀ w, C w → e.holds w
theorem Holds.st {w0 : World} {S N H : Hp} {e : Ent} (hm : e ∈ S ++ (N ++ H)) : Holds (fun w => St w0 w S N H) e := fun _ h => by
  rcases List.mem_append.1 hm with hm | hm
  · exact h.hasS e hm
  · exact h.has e hm
/-- The class 'these entries hold'. -/
def Kept (L : Hp) (w : World) : Prop := ∀ e ∈ L, e.holds w
theorem Holds.kept {L : Hp} {e : Ent} (hm : e ∈ L) : Holds (Kept L) e := fun _ h => h e hm
theorem cin {C : World → Prop} {b i : Nat} {cs : Array Value} {T : TypeId} {fz : Nat × Nat} {v : Value} (hm : Holds C (.blk b (.cells cs T fz))) (hc : cs[i]? = some v) : CellIn C b i v :=
  fun w h => cell_of_blk (hm w h) hc

section
variable {P : Program} {n : Nat} {l : Fr} {C : World → Prop} {d : Option Tmp} {ty : TypeId} {pos : String} {af : Array Edge} {gd : Option (Nat × Bool)} {g : Bool}

theorem R.move {x : Operand} {v : Value} (hx : Ev n l g x v) : RunsC P n l C g ⟨d, .move x, ty, pos, af, gd⟩ v := fun hg a w ha _ => by
  simp [execOp, hx.eq hg ha]
theorem R.assign {x : Operand} {v : Value} (hx : Ev n l g x v) : RunsC P n l C g ⟨d, .assign x, ty, pos, af, gd⟩ v := fun hg a w ha _ => by
  simp [execOp, hx.eq hg ha]
theorem R.pickT {c x y : Operand} {v : Value} (hc : Ev n l g c (.bool true)) (hx : Ev n l g x v) : RunsC P n l C g ⟨d, .pick c x y, ty, pos, af, gd⟩ v := fun hg a w ha _ => by
  simp [execOp, hx.eq hg ha, hc.eq hg ha, asBool]
theorem R.pickF {c x y : Operand} {v : Value} (hc : Ev n l g c (.bool false)) (hx : Ev n l g y v) : RunsC P n l C g ⟨d, .pick c x y, ty, pos, af, gd⟩ v := fun hg a w ha _ => by
  simp [execOp, hx.eq hg ha, hc.eq hg ha, asBool]
/-- 'c && x' -/
theorem R.pickAnd {c : Operand} {t : Nat} {b1 b2 g' : Bool} (hc : Ev n l g c (.bool b1)) (hx : look l t = some (g', .bool b2)) (hi : g = true → b1 = true → g' = true) :
    RunsC P n l C g ⟨d, .pick c (.tmp t) (.const (.bool false)), ty, pos, af, gd⟩ (.bool (b1 && b2)) := fun hg a w ha _ => by
  have e1 := hc.eq hg ha
  have e3 : a.eval (.const (.bool false)) = .bool false := rfl
  cases b1 with
  | false => simp [execOp, e1, e3, asBool]
  | true =>
    have e2 : a.eval (.tmp t) = .bool b2 := (ha.slot t _ _ hx).trans (if_pos (hi hg rfl))
    simp [execOp, e1, e2, asBool]
/-- 'c || x' -/
theorem R.pickOr {c : Operand} {t : Nat} {b1 b2 g' : Bool} (hc : Ev n l g c (.bool b1)) (hx : look l t = some (g', .bool b2)) (hi : g = true → b1 = false → g' = true) :
    RunsC P n l C g ⟨d, .pick c (.const (.bool true)) (.tmp t), ty, pos, af, gd⟩ (.bool (b1 || b2)) := fun hg a w ha _ => by
  have e1 := hc.eq hg ha
  have e3 : a.eval (.const (.bool true)) = .bool true := rfl
  cases b1 with
  | true => simp [execOp, e1, e3, asBool]
  | false =>
    have e2 : a.eval (.tmp t) = .bool b2 := (ha.slot t _ _ hx).trans (if_pos (hi hg rfl))
    simp [execOp, e1, e2, asBool]
theorem R.not {x : Operand} {T : TypeId} {b : Bool} (hx : Ev n l g x (.bool b)) : RunsC P n l C g ⟨d, .unOp .not T x, ty, pos, af, gd⟩ (.bool (!b)) := fun hg a w ha _ => by
  simp [execOp, hx.eq hg ha, Op.unary]
theorem R.neg {x : Operand} {T : TypeId} {k : IntKind} {m : Int} (hx : Ev n l g x (.int k m)) : RunsC P n l C g ⟨d, .unOp .neg T x, ty, pos, af, gd⟩ (.int k (k.wrap (-m))) := fun hg a w ha _ => by
  simp [execOp, hx.eq hg ha, Op.unary, Op.intArith]

section arith
variable {x y : Operand} {T U : TypeId} {k : IntKind} {a b : Int}
theorem R.add (hx : Ev n l g x (.int k a)) (hy : Ev n l g y (.int k b)) : RunsC P n l C g ⟨d, .binOp .add T x y U, ty, pos, af, gd⟩ (.int k (k.wrap (a + b))) := fun hg A w ha _ => by
  simp [execOp, hx.eq hg ha, hy.eq hg ha, eqGuard, binOp, Op.intArith]
theorem R.sub (hx : Ev n l g x (.int k a)) (hy : Ev n l g y (.int k b)) : RunsC P n l C g ⟨d, .binOp .sub T x y U, ty, pos, af, gd⟩ (.int k (k.wrap (a - b))) := fun hg A w ha _ => by
  simp [execOp, hx.eq hg ha, hy.eq hg ha, eqGuard, binOp, Op.intArith]
theorem R.mul (hx : Ev n l g x (.int k a)) (hy : Ev n l g y (.int k b)) : RunsC P n l C g ⟨d, .binOp .mul T x y U, ty, pos, af, gd⟩ (.int k (k.wrap (a * b))) := fun hg A w ha _ => by
  simp [execOp, hx.eq hg ha, hy.eq hg ha, eqGuard, binOp, Op.intArith]
theorem R.addI (hx : Ev n l g x (.int .i64 a)) (hy : Ev n l g y (.int .i64 b)) (hb : g = true → -9223372036854775808 ≤ a + b ∧ a + b ≤ 9223372036854775807) : RunsC P n l C g ⟨d, .binOp .add T x y U, ty, pos, af, gd⟩ (.int .i64 (a + b)) := fun hg => by
  have := R.add (P := P) (C := C) (d := d) (ty := ty) (pos := pos) (af := af) (gd := gd) (T := T) (U := U) hx hy hg
  rwa [IntWalk.i64_in _ (hb hg)] at this
theorem R.subI (hx : Ev n l g x (.int .i64 a)) (hy : Ev n l g y (.int .i64 b)) (hb : g = true → -9223372036854775808 ≤ a - b ∧ a - b ≤ 9223372036854775807) : RunsC P n l C g ⟨d, .binOp .sub T x y U, ty, pos, af, gd⟩ (.int .i64 (a - b)) := fun hg => by
  have := R.sub (P := P) (C := C) (d := d) (ty := ty) (pos := pos) (af := af) (gd := gd) (T := T) (U := U) hx hy hg
  rwa [IntWalk.i64_in _ (hb hg)] at this
theorem R.mulI (hx : Ev n l g x (.int .i64 a)) (hy : Ev n l g y (.int .i64 b)) (hb : g = true → -9223372036854775808 ≤ a * b ∧ a * b ≤ 9223372036854775807) : RunsC P n l C g ⟨d, .binOp .mul T x y U, ty, pos, af, gd⟩ (.int .i64 (a * b)) := fun hg => by
  have := R.mul (P := P) (C := C) (d := d) (ty := ty) (pos := pos) (af := af) (gd := gd) (T := T) (U := U) hx hy hg
  rwa [IntWalk.i64_in _ (hb hg)] at this
theorem R.quo (hx : Ev n l g x (.int k a)) (hy : Ev n l g y (.int k b)) (hb : g = true → b ≠ 0) : RunsC P n l C g ⟨d, .binOp .quo T x y U, ty, pos, af, gd⟩ (.int k (k.wrap (a.tdiv b))) := fun hg A w ha _ => by
  simp [execOp, hx.eq hg ha, hy.eq hg ha, eqGuard, binOp, Op.intDiv, hb hg]
theorem R.quoI (hx : Ev n l g x (.int .i64 a)) (hy : Ev n l g y (.int .i64 b)) (hb : g = true → 0 < b ∧ 0 ≤ a ∧ a ≤ 9223372036854775807) : RunsC P n l C g ⟨d, .binOp .quo T x y U, ty, pos, af, gd⟩ (.int .i64 (a / b)) := fun hg A w ha hw => by
  obtain ⟨h1, h2, h3⟩ := hb hg
  have := R.quo (P := P) (C := C) (d := d) (ty := ty) (pos := pos) (af := af) (gd := gd) (T := T) (U := U) hx hy (fun _ => by omega) hg A w ha hw
  have e : a.tdiv b = a / b := Int.tdiv_eq_ediv_of_nonneg h2
  have h4 : a / b ≤ a := Int.ediv_le_self b h2
  have h5 : 0 ≤ a / b := Int.ediv_nonneg h2 (by omega)
  rw [e, IntWalk.i64_in _ ⟨by omega, by omega⟩] at this
  exact this
theorem R.rem (hx : Ev n l g x (.int k a)) (hy : Ev n l g y (.int k b)) (hb : g = true → b ≠ 0) : RunsC P n l C g ⟨d, .binOp .rem T x y U, ty, pos, af, gd⟩ (.int k (a.tmod b)) := fun hg A w ha _ => by
  simp [execOp, hx.eq hg ha, hy.eq hg ha, eqGuard, binOp, Op.intDiv, hb hg]
theorem R.remI (hx : Ev n l g x (.int k a)) (hy : Ev n l g y (.int k b)) (hb : g = true → 0 < b ∧ 0 ≤ a) : RunsC P n l C g ⟨d, .binOp .rem T x y U, ty, pos, af, gd⟩ (.int k (a % b)) := fun hg A w ha hw => by
  obtain ⟨h1, h2⟩ := hb hg
  have := R.rem (P := P) (C := C) (d := d) (ty := ty) (pos := pos) (af := af) (gd := gd) (T := T) (U := U) hx hy (fun _ => by omega) hg A w ha hw
  rwa [Int.tmod_eq_emod_of_nonneg h2] at this
theorem R.lss (hx : Ev n l g x (.int k a)) (hy : Ev n l g y (.int k b)) : RunsC P n l C g ⟨d, .binOp .lss T x y U, ty, pos, af, gd⟩ (.bool (decide (a < b))) := fun hg A w ha _ => by
  simp [execOp, hx.eq hg ha, hy.eq hg ha, eqGuard, binOp, Op.intCmp]
theorem R.leq (hx : Ev n l g x (.int k a)) (hy : Ev n l g y (.int k b)) : RunsC P n l C g ⟨d, .binOp .leq T x y U, ty, pos, af, gd⟩ (.bool (decide (a ≤ b))) := fun hg A w ha _ => by
  simp [execOp, hx.eq hg ha, hy.eq hg ha, eqGuard, binOp, Op.intCmp]
theorem R.gtr (hx : Ev n l g x (.int k a)) (hy : Ev n l g y (.int k b)) : RunsC P n l C g ⟨d, .binOp .gtr T x y U, ty, pos, af, gd⟩ (.bool (decide (b < a))) := fun hg A w ha _ => by
  simp [execOp, hx.eq hg ha, hy.eq hg ha, eqGuard, binOp, Op.intCmp]
theorem R.geq (hx : Ev n l g x (.int k a)) (hy : Ev n l g y (.int k b)) : RunsC P n l C g ⟨d, .binOp .geq T x y U, ty, pos, af, gd⟩ (.bool (decide (b ≤ a))) := fun hg A w ha _ => by
  simp [execOp, hx.eq hg ha, hy.eq hg ha, eqGuard, binOp, Op.intCmp]
theorem R.eql (hx : Ev n l g x (.int k a)) (hy : Ev n l g y (.int k b)) : RunsC P n l C g ⟨d, .binOp .eql T x y U, ty, pos, af, gd⟩ (.bool (decide (a = b))) := fun hg A w ha _ => by
  simp [execOp, hx.eq hg ha, hy.eq hg ha, eqGuard, binOp, Op.intCmp]; rfl
theorem R.neq (hx : Ev n l g x (.int k a)) (hy : Ev n l g y (.int k b)) : RunsC P n l C g ⟨d, .binOp .neq T x y U, ty, pos, af, gd⟩ (.bool (!decide (a = b))) := fun hg A w ha _ => by
  simp [execOp, hx.eq hg ha, hy.eq hg ha, eqGuard, binOp, Op.intCmp]; rfl
theorem R.conv {V : TypeId} {D : TypeDesc} {kd : IntKind} (hS : P.underlying T = some D) (hD : P.underlying V = some (.int kd)) (hx : Ev n l g x (.int k a)) : RunsC P n l C g ⟨d, .convert T V x, ty, pos, af, gd⟩ (.int kd (kd.wrap a)) := fun hg A w ha _ => by
  simp [execOp, hx.eq hg ha, convert, run_underlying hS, run_underlying hD, Conv.intToInt]
end arith
theorem R.as {o : Oper} {v v' : Value} (h : RunsC P n l C g o v) (hv : g = true → v = v') : RunsC P n l C g o v' := fun hg => by rw [← hv hg]; exact h hg

/-- A type's zero cells, and where its parts lie. -/
def buildTab (P : Program) (t : TypeId) : Option (Array Value × List (Nat × Nat)) :=
  match P.info? t, P.underlying t with
  | some it, some (.array n e) => match it.zero, P.info? e with
    | some z, some ie => some (z.cells, (List.range n).map fun i => (i * ie.size, ie.size))
    | _, _ => none
  | some it, some (.struct fields) => match it.zero, fields.toList.mapM (fun f => (P.info? f.type).map fun i => (f.offset, i.size)) with
    | some z, some places => some (z.cells, places)
    | _, _ => none
  | _, _ => none

theorem fill_imp {p q : Nat → Option (Nat × Nat)} (h : ∀ i x, p i = some x → q i = some x) : ∀ (parts : List (Nat × Value)) (z cs : Array Value), Instr.fill p z parts = some cs → Instr.fill q z parts = some cs
  | [], z, cs, hf => hf
  | (i, v) :: rest, z, cs, hf => by
    simp only [Instr.fill] at hf ⊢
    cases hp : p i with
    | none => rw [hp] at hf; cases hf
    | some x =>
      rw [hp] at hf
      rw [h i x hp]
      simp only at hf ⊢
      split at hf
      · cases hf
      · rename_i hc; rw [if_neg hc]; exact fill_imp h rest _ cs hf
theorem built_of {P : Program} {t : TypeId} {z cs : Array Value} {pl : List (Nat × Nat)} {parts : List (Nat × Value)} (hb : buildTab P t = some (z, pl)) (hf : Instr.fill (fun i => pl[i]?) z parts = some cs) : P.built t parts = some cs := by
  unfold buildTab at hb
  unfold Program.built
  split at hb
  · rename_i it n e hi hu
    rw [hi, hu]
    split at hb
    · rename_i zz ie hz hie
      simp only [Option.some.injEq, Prod.mk.injEq] at hb
      obtain ⟨rfl, rfl⟩ := hb
      simp only [hz, hie]
      refine fill_imp (fun i x hx => ?_) _ _ _ hf
      simp only [List.getElem?_map, Option.map_eq_some_iff] at hx
      obtain ⟨j, hj, rfl⟩ := hx
      obtain ⟨hlt, he⟩ := List.getElem?_eq_some_iff.1 hj
      simp at he
      subst he; rfl
    · cases hb
  · rename_i it fields hi hu
    rw [hi, hu]
    split at hb
    · rename_i zz places hz hp
      simp only [Option.some.injEq, Prod.mk.injEq] at hb
      obtain ⟨rfl, rfl⟩ := hb
      simp only [hz, hp]
      exact fill_imp (fun i x hx => by simpa using hx) _ _ _ hf
    · cases hb
  · cases hb

/-- Values, by their cells. -/
inductive Cs : List Value → List (List Value) → Prop
  | nil : Cs [] []
  | cons {v : Value} {c : List Value} {vs : List Value} {cs : List (List Value)} : v.cells = c.toArray → Cs vs cs → Cs (v :: vs) (c :: cs)
theorem fill_cells {p : Nat → Option (Nat × Nat)} : ∀ {ix : List Nat} {vs : List Value} {cc : List (List Value)} (z : Array Value), Cs vs cc → Instr.fill p z (ix.zip vs) = Instr.fill p z (ix.zip (cc.map fun c => .agg c.toArray))
  | [], vs, cc, z, _ => by simp
  | i :: ix, _, _, z, .nil => by simp
  | i :: ix, v :: vs, c :: cc, z, .cons h1 h2 => by
    have hv : (Value.agg c.toArray).cells = c.toArray := rfl
    simp only [List.zip_cons_cons, List.map_cons, Instr.fill, h1, hv]
    split
    · rfl
    · split
      · rfl
      · exact fill_cells _ h2

def setL (cs : List Value) : Nat → List Value → List Value
  | _, [] => cs
  | i, v :: vs => setL (cs.set i v) (i + 1) vs
theorem setL_fold (off : Nat) : ∀ (c : List Value) (k : Nat) (cells : Array Value), (c.zipIdx k).foldl (fun cs (x : Value × Nat) => cs.setIfInBounds (off + x.2) x.1) cells = (setL cells.toList (off + k) c).toArray
  | [], k, cells => by simp [setL]
  | v :: vs, k, cells => by
    simp only [List.zipIdx_cons, List.foldl_cons, setL]
    rw [setL_fold off vs (k + 1)]
    simp [Nat.add_assoc]
theorem setL_length : ∀ (c cs : List Value) (i : Nat), (setL cs i c).length = cs.length
  | [], cs, i => rfl
  | v :: vs, cs, i => by rw [setL, setL_length vs]; simp
/-- The cells with the parts in their places. -/
def fillL (pl : List (Nat × Nat)) : List Value → List Nat → List (List Value) → Option (List Value)
  | cs, i :: ix, c :: cc => match pl[i]? with
    | some (off, size) => if Nat.beq c.length size && Nat.ble (off + c.length) cs.length then fillL pl (setL cs off c) ix cc else none
    | none => none
  | cs, _, _ => some cs
theorem fill_of {pl : List (Nat × Nat)} : ∀ (ix : List Nat) (cc : List (List Value)) (z : Array Value) (r : List Value), fillL pl z.toList ix cc = some r → Instr.fill (fun i => pl[i]?) z (ix.zip (cc.map fun c => .agg c.toArray)) = some r.toArray
  | [], cc, z, r, h => by simp [fillL] at h; subst h; simp [Instr.fill]
  | i :: ix, [], z, r, h => by simp [fillL] at h; subst h; simp [Instr.fill]
  | i :: ix, c :: cc, z, r, h => by
    simp only [fillL] at h
    split at h
    · rename_i off size hp
      split at h
      · rename_i hc
        simp only [Bool.and_eq_true] at hc
        have h1 : c.length = size := Nat.eq_of_beq_eq_true hc.1
        have h2 : off + c.length ≤ z.toList.length := Nat.le_of_ble_eq_true hc.2
        have hv : (Value.agg c.toArray).cells = c.toArray := rfl
        simp only [List.map_cons, List.zip_cons_cons, Instr.fill, hp, hv]
        have h3 : c.toArray.zipIdx.foldl (fun cs (x : Value × Nat) => cs.setIfInBounds (off + x.2) x.1) z = (setL z.toList off c).toArray := by
          have := setL_fold off c 0 z
          simpa using this
        rw [if_neg (by simp at h2 ⊢; omega)]
        refine Eq.trans ?_ (fill_of ix cc (setL z.toList off c).toArray r (by simpa using h))
        congr 1
      · cases h
    · cases h

/-- Is it a type of one cell? -/
def plainD : TypeDesc → Bool
  | .struct _ => false
  | .array _ _ => false
  | _ => true

theorem run_isAgg {P : Program} {T : TypeId} {D : TypeDesc} (hT : P.underlying T = some D) (w : World) : (isAgg T).run P w = .ok (!plainD D) w := by
  unfold isAgg
  cases D <;> simp [run_underlying hT, plainD]
theorem run_sizeOf {P : Program} {T : TypeId} {m : Nat} (hs : (P.info? T).map (·.size) = some m) (w : World) : (sizeOf T).run P w = .ok m w := by
  cases hi : P.info? T with
  | none => rw [hi] at hs; cases hs
  | some inf => rw [hi] at hs; simp at hs; simp [sizeOf, typeInfo, hi, hs]

theorem R.load {x : Operand} {T : TypeId} {D : TypeDesc} {b i : Nat} {v : Value} (hT : P.underlying T = some D) (hD : plainD D = true) (hx : Ev n l g x (.pointer (some ⟨b, i, none⟩))) (hc : CellIn C b i v) :
    RunsC P n l C g ⟨d, .load T x, ty, pos, af, gd⟩ v := fun hg a w ha hw => by
  have h1 := hc w hw
  have h2 := run_isAgg hT w
  rw [hD] at h2
  simp [execOp, hx.eq hg ha, Instr.loadAt, Instr.sureAddr, loadVar, h2, h1]

theorem add_addr (b i k : Nat) : (⟨b, i, none⟩ : Addr).add k = ⟨b, i + k, none⟩ := by
  unfold Addr.add; split <;> simp_all

/-- A row of cells. -/
def CellsIn (C : World → Prop) (b i : Nat) (vs : List Value) : Prop := ∀ w, C w → ∀ j v, vs[j]? = some v → w.cell? ⟨b, i + j, none⟩ = some v
/-- The cells of an array from i on. -/
def CellsAt (cs : Array Value) : Nat → List Value → Prop
  | _, [] => True
  | i, v :: vs => cs[i]? = some v ∧ CellsAt cs (i + 1) vs
theorem CellsAt.at_ {cs : Array Value} : ∀ {vs : List Value} {i : Nat}, CellsAt cs i vs → ∀ j v, vs[j]? = some v → cs[i + j]? = some v
  | v :: vs, i, h, 0, u, hu => by simp at hu; subst hu; exact h.1
  | v :: vs, i, h, j + 1, u, hu => by
    have := CellsAt.at_ h.2 j u (by simpa using hu)
    rw [← this]; congr 1; omega

theorem run_loadCellsFrom (P : Program) {w : World} {b i : Nat} : ∀ (vs : List Value) (k : Nat) (acc : Array Value), (∀ j v, vs[j]? = some v → w.cell? ⟨b, i + (k + j), none⟩ = some v) →
    (loadCellsFrom ⟨b, i, none⟩ k vs.length acc).run P w = .ok (acc ++ vs.toArray) w
  | [], k, acc, _ => by simp [loadCellsFrom]
  | v :: vs, k, acc, h => by
    have h0 := h 0 v rfl
    have ih := run_loadCellsFrom P (b := b) (i := i) vs (k + 1) (acc.push v) (fun j u hu => by have := h (j + 1) u (by simpa using hu); rw [← this]; congr 2; omega)
    simp only [Nat.add_zero] at h0
    simp [loadCellsFrom, add_addr, h0, ih]

theorem R.loadAgg {x : Operand} {T : TypeId} {D : TypeDesc} {b i : Nat} {vs : List Value} (hT : P.underlying T = some D) (hD : plainD D = false) (hs : (P.info? T).map (·.size) = some vs.length)
    (hx : Ev n l g x (.pointer (some ⟨b, i, none⟩))) (hc : CellsIn C b i vs) :
    RunsC P n l C g ⟨d, .load T x, ty, pos, af, gd⟩ (.agg vs.toArray) := fun hg a w ha hw => by
  have h1 := hc w hw
  have h2 := run_isAgg hT w
  rw [hD] at h2
  have h3 := run_sizeOf hs w
  have h4 := run_loadCellsFrom P (b := b) (i := i) vs 0 #[] (fun j v hv => by have := h1 j v hv; rw [← this]; congr 2; omega)
  simp only [List.append_toArray, List.nil_append] at h4
  simp [execOp, hx.eq hg ha, Instr.loadAt, Instr.sureAddr, loadVar, h2, h3, loadCells, h4]

theorem csin {C : World → Prop} {b i : Nat} {cs : Array Value} {T : TypeId} {fz : Nat × Nat} {vs : List Value} (hm : Holds C (.blk b (.cells cs T fz))) (hc : CellsAt cs i vs) : CellsIn C b i vs :=
  fun w h j v hv => cell_of_blk (hm w h) (hc.at_ j v hv)

/-- Where a field lies (nothing where its type has no cell). -/
def fieldOff? (P : Program) (s f : Nat) : Option Nat :=
  match P.underlying s with
  | some (.struct fs) => match fs[f]? with
    | some fd => match P.info? fd.type with
      | some inf => if inf.size = 0 then none else some fd.offset
      | none => none
    | none => none
  | _ => none
theorem R.fieldAddr {x : Operand} {s f b i off : Nat} (hf : fieldOff? P s f = some off) (hx : Ev n l g x (.pointer (some ⟨b, i, none⟩))) :
    RunsC P n l C g ⟨d, .fieldAddr s x f, ty, pos, af, gd⟩ (.pointer (some ⟨b, i + off, none⟩)) := fun hg a w ha _ => by
  unfold fieldOff? at hf
  split at hf
  · rename_i fs hs
    split at hf
    · rename_i fd hfd
      split at hf
      · rename_i inf hi
        split at hf
        · cases hf
        · rename_i hsz
          injection hf with hf
          subst hf
          simp [execOp, hx.eq hg ha, Instr.fieldAt, run_underlying hs, hfd, Instr.sureAddr, fieldPlace, run_sizeOf (P := P) (T := fd.type) (m := inf.size) (by simp [hi]), hsz, add_addr]
      · cases hf
    · cases hf
  · cases hf
/-- Where a field of one cell lies. -/
def fieldOne? (P : Program) (s f : Nat) : Option Nat :=
  match P.underlying s with
  | some (.struct fs) => match fs[f]? with
    | some fd => match P.underlying fd.type with
      | some D => if plainD D then some fd.offset else none
      | none => none
    | none => none
  | _ => none
theorem R.field {x : Operand} {s f off : Nat} {cs : Array Value} {v : Value} (hf : fieldOne? P s f = some off) (hx : Ev n l g x (.agg cs)) (hv : cs[off]? = some v) : RunsC P n l C g ⟨d, .field s x f, ty, pos, af, gd⟩ v := fun hg a w ha _ => by
  unfold fieldOne? at hf
  split at hf
  · rename_i fs hs
    split at hf
    · rename_i fd hfd
      split at hf
      · rename_i D hD
        split at hf
        · rename_i hp
          injection hf with hf
          subst hf
          have h2 := run_isAgg hD w
          rw [hp] at h2
          simp [execOp, hx.eq hg ha, Instr.field, run_underlying hs, hfd, part, h2, asAgg, hv]
        · cases hf
      · cases hf
    · cases hf
  · cases hf

/-- The address of an array's element. -/
theorem R.indexArr {x y : Operand} {T E len b i m : Nat} {k : IntKind} {j : Int} (hT : P.underlying T = some (.array len E)) (hs : (P.info? E).map (·.size) = some m) (hx : Ev n l g x (.pointer (some ⟨b, i, none⟩))) (hy : Ev n l g y (.int k j))
    (hj : g = true → 0 ≤ j ∧ j < len) : RunsC P n l C g ⟨d, .indexAddr T x y, ty, pos, af, gd⟩ (.pointer (some ⟨b, i + j.toNat * m, none⟩)) := fun hg a w ha _ => by
  obtain ⟨h1, h2⟩ := hj hg
  simp [execOp, hx.eq hg ha, hy.eq hg ha, Instr.indexAt, run_underlying hT, asIntOf, Instr.sureAddr, run_sizeOf hs, add_addr, h1, h2]
/-- The address of a slice's element. -/
theorem R.indexSl {x y : Operand} {T E b i len cap m : Nat} {k : IntKind} {j : Int} (hT : P.underlying T = some (.slice E)) (hs : (P.info? E).map (·.size) = some m) (hx : Ev n l g x (.slice (some ⟨b, i, none⟩) len cap)) (hy : Ev n l g y (.int k j))
    (hj : g = true → 0 ≤ j ∧ j < len) : RunsC P n l C g ⟨d, .indexAddr T x y, ty, pos, af, gd⟩ (.pointer (some ⟨b, i + j.toNat * m, none⟩)) := fun hg a w ha _ => by
  obtain ⟨h1, h2⟩ := hj hg
  simp [execOp, hx.eq hg ha, hy.eq hg ha, Instr.indexAt, run_underlying hT, asIntOf, run_sizeOf hs, add_addr, h1, h2]
theorem R.extract {x : Operand} {j : Nat} {vs : Array Value} {v : Value} (hx : Ev n l g x (.tuple vs)) (hv : vs[j]? = some v) : RunsC P n l C g ⟨d, .extract x j, ty, pos, af, gd⟩ v := fun hg a w ha _ => by
  simp [execOp, hx.eq hg ha, Instr.extract, hv]
theorem R.lenSl {x : Operand} {T : TypeId} {E len cap : Nat} {A : Option Addr} (hT : P.underlying T = some (.slice E)) (hx : Ev n l g x (.slice A len cap)) :
    RunsC P n l C g ⟨d, .call { callee := .builtin .len, args := #[x], argTypes := #[T] }, ty, pos, af, gd⟩ (.int .i64 len) := fun hg a w ha _ => by
  simp [execOp, resolve, invoke, builtin, hx.eq hg ha, Builtin.len_, run_underlying hT, goInt]
theorem R.max2 {x y : Operand} {T U : TypeId} {k k' : IntKind} {a b : Int} (hx : Ev n l g x (.int k a)) (hy : Ev n l g y (.int k' b)) :
    RunsC P n l C g ⟨d, .call { callee := .builtin .max, args := #[x, y], argTypes := #[T, U] }, ty, pos, af, gd⟩ (.int k (max a b)) := fun hg A w ha _ => by
  have e : (if b > a then b else a) = max a b := by rw [Int.max_def]; split <;> split <;> omega
  simp [execOp, resolve, invoke, builtin, hx.eq hg ha, hy.eq hg ha, Builtin.max_, Builtin.max2]
  simpa using e
theorem R.min2 {x y : Operand} {T U : TypeId} {k k' : IntKind} {a b : Int} (hx : Ev n l g x (.int k a)) (hy : Ev n l g y (.int k' b)) :
    RunsC P n l C g ⟨d, .call { callee := .builtin .min, args := #[x, y], argTypes := #[T, U] }, ty, pos, af, gd⟩ (.int k (min a b)) := fun hg A w ha _ => by
  have e : (if b < a then b else a) = min a b := by rw [Int.min_def]; split <;> split <;> omega
  simp [execOp, resolve, invoke, builtin, hx.eq hg ha, hy.eq hg ha, Builtin.min_, Builtin.min2]
  simpa using e
theorem R.nilCheckP {x : Operand} {b i : Nat} (hx : Ev n l g x (.pointer (some ⟨b, i, none⟩))) : RunsC P n l C g ⟨d, .nilCheck x, ty, pos, af, gd⟩ (.pointer (some ⟨b, i, none⟩)) := fun hg a w ha _ => by
  simp [execOp, hx.eq hg ha]
theorem R.makeFunc {fn : Go.Fn} {fs cs : List Operand} {us vs : List Value} (h1 : Evs n l g fs us) (h2 : Evs n l g cs vs) :
    RunsC P n l C g ⟨d, .makeFunc fn fs.toArray cs.toArray, ty, pos, af, gd⟩ (.func fn us.toArray vs.toArray) := fun hg a w ha _ => by
  simp [execOp, Instr.makeFunc, h1.eq hg ha, h2.eq hg ha]
/-- A struct or an array out of its parts. -/
theorem R.build {t : TypeId} {parts : List (Nat × Operand)} {vs : List Value} {cc : List (List Value)} {z : List Value} {cs : List Value} {pl : List (Nat × Nat)} (hb : buildTab P t = some (z.toArray, pl)) (hv : Evs n l g (parts.map (·.2)) vs)
    (hc : Cs vs cc) (hf : fillL pl z (parts.map (·.1)) cc = some cs) : RunsC P n l C g ⟨d, .build t parts.toArray, ty, pos, af, gd⟩ (.agg cs.toArray) := fun hg a w ha _ => by
  have h1 : (parts.map fun x => (x.1, a.eval x.2)) = (parts.map (·.1)).zip vs := by
    rw [← hv.eq hg ha]
    clear hv hc hf
    induction parts with
    | nil => rfl
    | cons x r ih => simp only [List.map_cons, List.zip_cons_cons]; rw [ih]
  have h2 : P.built t ((parts.map (·.1)).zip vs) = some cs.toArray := built_of hb (by rw [fill_cells _ hc]; exact fill_of _ _ _ _ (by simpa using hf))
  have h3 := run_build w t ((parts.map (·.1)).zip vs).toArray cs.toArray (by simpa using h2)
  simp only [execOp, List.map_toArray]
  rw [h1, Sem.run_bind, h3]
  simp
end
end Go.Proofs.Ytimclnhklaldfaa
