/- Part of the proof: lemmas for what the last file states; no condition. -/
import Derived.WalkKit
import Derived.WalkSpells
import Derived.WalkLawsBesides
import Derived.OrdersHeld
import Derived.IntWalk
import Derived.Maps.AppendAt
import Derived.Deep.LoopGhost
set_option linter.unusedSectionVars false
namespace Go.Proofs.YtbolanigdkgbdaaGreat
open Go Go.RowKit
class Df where
  ds : List Deferred
  ow : List Nat
@[reducible] instance (priority := low) noDf : Df := ⟨[], []⟩
set_option linter.unusedSectionVars false
variable [Df]
def RdIs (w : World) (v : Value) (sz n : Nat) (xs : List Value) : Prop :=
  ∃ A cap, v = .slice A n cap ∧ n ≤ cap ∧ cap ≤ maxLen ∧ xs.length = n * sz ∧
    (0 < n → ∃ b o, A = some ⟨b, o, none⟩ ∧ b < w.heap.size ∧ ∀ j u, xs[j]? = some u → w.cell? ⟨b, o + j, none⟩ = some u)
inductive Ent where
  | blk (b : Nat) (o : Obj)
  | row (v : Value) (E sz n : Nat) (xs : List Value)
  | rd (v : Value) (sz n : Nat) (xs : List Value)
def Ent.key : Ent → Option Nat
  | .blk b _ => some b
  | .row v _ _ _ _ => v.ownBlock
  | .rd v _ n _ => if n = 0 then none else v.ownBlock
def Ent.holds (w : World) : Ent → Prop
  | .blk b o => w.heap[b]? = some o
  | .row v E sz n xs => w.ownsRow 0 E sz v n xs
  | .rd v sz n xs => RdIs w v sz n xs
abbrev Hp := List Ent
abbrev keys (l : Hp) : List Nat := l.filterMap Ent.key
structure StO (ow : List Nat) (w0 w : World) (S N H : Hp) : Prop where
  os : w.os = w0.os
  tape : w.tape = w0.tape
  output : w.output = w0.output
  size : w0.heap.size ≤ w.heap.size
  has : ∀ e ∈ N ++ H, e.holds w
  hasS : ∀ e ∈ S, e.holds w
  nodup : (keys (N ++ H)).Nodup
  apart : ∀ k ∈ keys S, k ∉ keys (N ++ H)
  fresh : ∀ e ∈ N, ∀ k, e.key = some k → w0.heap.size ≤ k ∨ k ∈ ow
  old : ∀ b, b < w0.heap.size → b ∉ keys H → b ∉ ow → w.heap[b]? = w0.heap[b]?
abbrev St (w0 w : World) (S N H : Hp) : Prop := StO Df.ow w0 w S N H
abbrev Fr := List (Nat × Bool × Value)
def look : Fr → Nat → Option (Bool × Value)
  | [], _ => none
  | (k, gv) :: r, t => if k = t then some gv else look r t
structure Fk (n : Nat) (l : Fr) (a : Act) : Prop where
  size : a.tmps.size = n
  defers : a.defers = Df.ds
  slot : ∀ t g v, look l t = some (g, v) → a.tmps.getD t undef = if g = true then v else undef
theorem Fk.put {n d : Nat} {l : Fr} {a : Act} {g : Bool} {v u : Value} (h : Fk n l a) (hd : d < n) (hv : u = if g = true then v else undef) : Fk n ((d, g, v) :: l) (a.put (some d) u) := by
  refine ⟨by simp [Act.put, h.size], h.defers, fun t g' u' ht => ?_⟩
  simp only [look] at ht
  split at ht
  · rename_i e; subst e
    simp only [Option.some.injEq, Prod.mk.injEq] at ht
    obtain ⟨rfl, rfl⟩ := ht
    simp [Act.put, Array.getD_eq_getD_getElem?, h.size, hd, hv]
  · rename_i e
    have := h.slot t g' u' ht
    simp [Act.put, Array.getD_eq_getD_getElem?, e] at this ⊢
    exact this
theorem Fk.weak {n : Nat} {l l' : Fr} {a : Act} (h : Fk n l a) (hl : ∀ t v, look l' t = some v → look l t = some v) : Fk n l' a :=
  ⟨h.size, h.defers, fun t g v ht => h.slot t g v (hl t _ ht)⟩
def Ev (n : Nat) (l : Fr) (g : Bool) (x : Operand) (v : Value) : Prop := g = true → ∀ a, Fk n l a → a.eval x = v
section
variable {n : Nat} {l : Fr} {g : Bool}
theorem Ev.t {t : Nat} {v : Value} (h : look l t = some (true, v)) : Ev n l g (.tmp t) v := fun _ _ ha => (ha.slot t _ v h).trans (if_pos rfl)
theorem Ev.s {t : Nat} {v : Value} (h : look l t = some (g, v)) : Ev n l g (.tmp t) v := fun hg _ ha => (ha.slot t _ v h).trans (if_pos hg)
theorem Ev.c {v : Value} : Ev n l g (.const v) v := fun _ _ _ => rfl
theorem Ev.f {f : FuncId} : Ev n l g (.func f) (.func (.func f) #[] #[]) := fun _ _ _ => rfl
theorem Ev.eq {x : Operand} {v : Value} (h : Ev n l g x v) (hg : g = true) {a : Act} (ha : Fk n l a) : a.eval x = v := h hg a ha
end
inductive Evs (n : Nat) (l : Fr) (g : Bool) : List Operand → List Value → Prop
  | nil : Evs n l g [] []
  | cons {x : Operand} {v : Value} {xs : List Operand} {vs : List Value} : Ev n l g x v → Evs n l g xs vs → Evs n l g (x :: xs) (v :: vs)
theorem Evs.eq {n : Nat} {l : Fr} {g : Bool} {xs : List Operand} {vs : List Value} (h : Evs n l g xs vs) (hg : g = true) {a : Act} (ha : Fk n l a) : xs.map a.eval = vs := by
  induction h with
  | nil => rfl
  | cons h1 _ ih => simp [h1.eq hg ha, ih]
def wantG (ops : Array Oper) (l : Fr) (o : Oper) : Option Bool :=
  match o.guard with
  | none => some true
  | some (j, want) => match (ops[j]?).bind (·.dst) with
    | none => none
    | some d => match look l d with
      | some (g, .bool c) => some (g && (c == want))
      | _ => none
theorem undef_ne_bool (c : Bool) : undef ≠ .bool c := by simp [undef]
theorem wanted_of {n : Nat} {ops : Array Oper} {l : Fr} {a : Act} {o : Oper} {g : Bool} (h : Fk n l a) (hw : wantG ops l o = some g) : Region.wanted o (yielded ops a.tmps) = g := by
  unfold wantG at hw
  unfold Region.wanted
  split at hw
  · rename_i hg; simp [hg] at hw ⊢; exact hw
  · rename_i j want hg
    simp only [hg]
    split at hw
    · cases hw
    · rename_i d hd
      split at hw
      · rename_i g1 c hl
        injection hw with hw
        subst hw
        cases g1 with
        | true =>
          have h1 : a.tmps.getD d undef = .bool c := (h.slot d _ _ hl).trans (if_pos rfl)
          have h2 : a.tmps[d]? = some (.bool c) := by
            rw [Array.getD_eq_getD_getElem?] at h1
            cases hq : a.tmps[d]? with
            | none => rw [hq] at h1; exact absurd h1 (undef_ne_bool c)
            | some u => rw [hq] at h1; simp at h1; rw [h1]
          simp only [yielded, hd, Option.bind_some, h2]
          cases c <;> cases want <;> rfl
        | false =>
          have h1 : a.tmps.getD d undef = undef := (h.slot d _ _ hl).trans (if_neg Bool.false_ne_true)
          have h2 : ∀ c', a.tmps[d]? ≠ some (.bool c') := fun c' e => by
            rw [Array.getD_eq_getD_getElem?, e] at h1
            exact undef_ne_bool c' h1.symm
          have h3 : yielded ops a.tmps j = none := by
            simp only [yielded, hd, Option.bind_some]
          rw [h3]; rfl
      · cases hw
def RunsC (P : Program) (n : Nat) (l : Fr) (C : World → Prop) (g : Bool) (o : Oper) (v : Value) : Prop :=
  g = true → ∀ a w, Fk n l a → C w → (execOp a.eval o).run P w = .ok (.value v) w
def CellIn (C : World → Prop) (b i : Nat) (v : Value) : Prop := ∀ w, C w → w.cell? ⟨b, i, none⟩ = some v
theorem cell_of_blk {w : World} {b i : Nat} {cs : Array Value} {T : TypeId} {fz : Nat × Nat} {v : Value} (h : w.heap[b]? = some (.cells cs T fz)) (hc : cs[i]? = some v) : w.cell? ⟨b, i, none⟩ = some v := by
  simp [World.cell?, h, hc]
def Holds (C : World → Prop) (e : Ent) : Prop := ∀ w, C w → e.holds w
theorem Holds.st {w0 : World} {S N H : Hp} {e : Ent} (hm : e ∈ S ++ (N ++ H)) : Holds (fun w => St w0 w S N H) e := fun _ h => by
  rcases List.mem_append.1 hm with hm | hm
  · exact h.hasS e hm
  · exact h.has e hm
def Kept (L : Hp) (w : World) : Prop := ∀ e ∈ L, e.holds w
theorem Holds.kept {L : Hp} {e : Ent} (hm : e ∈ L) : Holds (Kept L) e := fun _ h => h e hm
theorem cin {C : World → Prop} {b i : Nat} {cs : Array Value} {T : TypeId} {fz : Nat × Nat} {v : Value} (hm : Holds C (.blk b (.cells cs T fz))) (hc : cs[i]? = some v) : CellIn C b i v :=
  fun w h => cell_of_blk (hm w h) hc
section
variable {P : Program} {n : Nat} {l : Fr} {C : World → Prop} {d : Option Tmp} {ty : TypeId} {pos : String} {af : Array Edge} {gd : Option (Nat × Bool)} {g : Bool}
theorem R.move {x : Operand} {v : Value} (hx : Ev n l g x v) : RunsC P n l C g ⟨d, .move x, ty, pos, af, gd⟩ v := fun hg a w ha _ => by
  simp [execOp, hx.eq hg ha]
theorem R.assign {x : Operand} {v : Value} (hx : Ev n l g x v) : RunsC P n l C g ⟨d, .assign x, ty, pos, af, gd⟩ v := fun hg a w ha _ => by
  simp [execOp, hx.eq hg ha]
theorem R.pickT {c x y : Operand} {v : Value} (hc : Ev n l g c (.bool true)) (hx : Ev n l g x v) : RunsC P n l C g ⟨d, .pick c x y, ty, pos, af, gd⟩ v := fun hg a w ha _ => by
  simp [execOp, hx.eq hg ha, hc.eq hg ha, asBool]
theorem R.pickF {c x y : Operand} {v : Value} (hc : Ev n l g c (.bool false)) (hx : Ev n l g y v) : RunsC P n l C g ⟨d, .pick c x y, ty, pos, af, gd⟩ v := fun hg a w ha _ => by
  simp [execOp, hx.eq hg ha, hc.eq hg ha, asBool]
theorem R.pickAnd {c : Operand} {t : Nat} {b1 b2 g' : Bool} (hc : Ev n l g c (.bool b1)) (hx : look l t = some (g', .bool b2)) (hi : g = true → b1 = true → g' = true) :
    RunsC P n l C g ⟨d, .pick c (.tmp t) (.const (.bool false)), ty, pos, af, gd⟩ (.bool (b1 && b2)) := fun hg a w ha _ => by
  have e1 := hc.eq hg ha
  have e3 : a.eval (.const (.bool false)) = .bool false := rfl
  cases b1 with
  | false => simp [execOp, e1, e3, asBool]
  | true =>
    have e2 : a.eval (.tmp t) = .bool b2 := (ha.slot t _ _ hx).trans (if_pos (hi hg rfl))
    simp [execOp, e1, e2, asBool]
theorem R.pickOr {c : Operand} {t : Nat} {b1 b2 g' : Bool} (hc : Ev n l g c (.bool b1)) (hx : look l t = some (g', .bool b2)) (hi : g = true → b1 = false → g' = true) :
    RunsC P n l C g ⟨d, .pick c (.const (.bool true)) (.tmp t), ty, pos, af, gd⟩ (.bool (b1 || b2)) := fun hg a w ha _ => by
  have e1 := hc.eq hg ha
  have e3 : a.eval (.const (.bool true)) = .bool true := rfl
  cases b1 with
  | true => simp [execOp, e1, e3, asBool]
  | false =>
    have e2 : a.eval (.tmp t) = .bool b2 := (ha.slot t _ _ hx).trans (if_pos (hi hg rfl))
    simp [execOp, e1, e2, asBool]
theorem R.not {x : Operand} {T : TypeId} {b : Bool} (hx : Ev n l g x (.bool b)) : RunsC P n l C g ⟨d, .unOp .not T x, ty, pos, af, gd⟩ (.bool (!b)) := fun hg a w ha _ => by
  simp [execOp, hx.eq hg ha, Op.unary]
section arith
variable {x y : Operand} {T U : TypeId} {k : IntKind} {a b : Int}
theorem R.add (hx : Ev n l g x (.int k a)) (hy : Ev n l g y (.int k b)) : RunsC P n l C g ⟨d, .binOp .add T x y U, ty, pos, af, gd⟩ (.int k (k.wrap (a + b))) := fun hg A w ha _ => by
  simp [execOp, hx.eq hg ha, hy.eq hg ha, eqGuard, binOp, Op.intArith]
theorem R.sub (hx : Ev n l g x (.int k a)) (hy : Ev n l g y (.int k b)) : RunsC P n l C g ⟨d, .binOp .sub T x y U, ty, pos, af, gd⟩ (.int k (k.wrap (a - b))) := fun hg A w ha _ => by
  simp [execOp, hx.eq hg ha, hy.eq hg ha, eqGuard, binOp, Op.intArith]
theorem R.mul (hx : Ev n l g x (.int k a)) (hy : Ev n l g y (.int k b)) : RunsC P n l C g ⟨d, .binOp .mul T x y U, ty, pos, af, gd⟩ (.int k (k.wrap (a * b))) := fun hg A w ha _ => by
  simp [execOp, hx.eq hg ha, hy.eq hg ha, eqGuard, binOp, Op.intArith]
theorem R.addI (hx : Ev n l g x (.int .i64 a)) (hy : Ev n l g y (.int .i64 b)) (hb : g = true → -9223372036854775808 ≤ a + b ∧ a + b ≤ 9223372036854775807) : RunsC P n l C g ⟨d, .binOp .add T x y U, ty, pos, af, gd⟩ (.int .i64 (a + b)) := fun hg => by
  have := R.add (P := P) (C := C) (d := d) (ty := ty) (pos := pos) (af := af) (gd := gd) (T := T) (U := U) hx hy hg
  rwa [IntWalk.i64_in _ (hb hg)] at this
theorem R.subI (hx : Ev n l g x (.int .i64 a)) (hy : Ev n l g y (.int .i64 b)) (hb : g = true → -9223372036854775808 ≤ a - b ∧ a - b ≤ 9223372036854775807) : RunsC P n l C g ⟨d, .binOp .sub T x y U, ty, pos, af, gd⟩ (.int .i64 (a - b)) := fun hg => by
  have := R.sub (P := P) (C := C) (d := d) (ty := ty) (pos := pos) (af := af) (gd := gd) (T := T) (U := U) hx hy hg
  rwa [IntWalk.i64_in _ (hb hg)] at this
theorem R.mulI (hx : Ev n l g x (.int .i64 a)) (hy : Ev n l g y (.int .i64 b)) (hb : g = true → -9223372036854775808 ≤ a * b ∧ a * b ≤ 9223372036854775807) : RunsC P n l C g ⟨d, .binOp .mul T x y U, ty, pos, af, gd⟩ (.int .i64 (a * b)) := fun hg => by
  have := R.mul (P := P) (C := C) (d := d) (ty := ty) (pos := pos) (af := af) (gd := gd) (T := T) (U := U) hx hy hg
  rwa [IntWalk.i64_in _ (hb hg)] at this
theorem R.quo (hx : Ev n l g x (.int k a)) (hy : Ev n l g y (.int k b)) (hb : g = true → b ≠ 0) : RunsC P n l C g ⟨d, .binOp .quo T x y U, ty, pos, af, gd⟩ (.int k (k.wrap (a.tdiv b))) := fun hg A w ha _ => by
  simp [execOp, hx.eq hg ha, hy.eq hg ha, eqGuard, binOp, Op.intDiv, hb hg]
theorem R.quoI (hx : Ev n l g x (.int .i64 a)) (hy : Ev n l g y (.int .i64 b)) (hb : g = true → 0 < b ∧ 0 ≤ a ∧ a ≤ 9223372036854775807) : RunsC P n l C g ⟨d, .binOp .quo T x y U, ty, pos, af, gd⟩ (.int .i64 (a / b)) := fun hg A w ha hw => by
  obtain ⟨h1, h2, h3⟩ := hb hg
  have := R.quo (P := P) (C := C) (d := d) (ty := ty) (pos := pos) (af := af) (gd := gd) (T := T) (U := U) hx hy (fun _ => by omega) hg A w ha hw
  have e : a.tdiv b = a / b := Int.tdiv_eq_ediv_of_nonneg h2
  have h4 : a / b ≤ a := Int.ediv_le_self b h2
  have h5 : 0 ≤ a / b := Int.ediv_nonneg h2 (by omega)
  rw [e, IntWalk.i64_in _ ⟨by omega, by omega⟩] at this
  exact this
theorem R.rem (hx : Ev n l g x (.int k a)) (hy : Ev n l g y (.int k b)) (hb : g = true → b ≠ 0) : RunsC P n l C g ⟨d, .binOp .rem T x y U, ty, pos, af, gd⟩ (.int k (a.tmod b)) := fun hg A w ha _ => by
  simp [execOp, hx.eq hg ha, hy.eq hg ha, eqGuard, binOp, Op.intDiv, hb hg]
theorem R.remI (hx : Ev n l g x (.int k a)) (hy : Ev n l g y (.int k b)) (hb : g = true → 0 < b ∧ 0 ≤ a) : RunsC P n l C g ⟨d, .binOp .rem T x y U, ty, pos, af, gd⟩ (.int k (a % b)) := fun hg A w ha hw => by
  obtain ⟨h1, h2⟩ := hb hg
  have := R.rem (P := P) (C := C) (d := d) (ty := ty) (pos := pos) (af := af) (gd := gd) (T := T) (U := U) hx hy (fun _ => by omega) hg A w ha hw
  rwa [Int.tmod_eq_emod_of_nonneg h2] at this
theorem R.lss (hx : Ev n l g x (.int k a)) (hy : Ev n l g y (.int k b)) : RunsC P n l C g ⟨d, .binOp .lss T x y U, ty, pos, af, gd⟩ (.bool (decide (a < b))) := fun hg A w ha _ => by
  simp [execOp, hx.eq hg ha, hy.eq hg ha, eqGuard, binOp, Op.intCmp]
theorem R.leq (hx : Ev n l g x (.int k a)) (hy : Ev n l g y (.int k b)) : RunsC P n l C g ⟨d, .binOp .leq T x y U, ty, pos, af, gd⟩ (.bool (decide (a ≤ b))) := fun hg A w ha _ => by
  simp [execOp, hx.eq hg ha, hy.eq hg ha, eqGuard, binOp, Op.intCmp]
theorem R.gtr (hx : Ev n l g x (.int k a)) (hy : Ev n l g y (.int k b)) : RunsC P n l C g ⟨d, .binOp .gtr T x y U, ty, pos, af, gd⟩ (.bool (decide (b < a))) := fun hg A w ha _ => by
  simp [execOp, hx.eq hg ha, hy.eq hg ha, eqGuard, binOp, Op.intCmp]
theorem R.geq (hx : Ev n l g x (.int k a)) (hy : Ev n l g y (.int k b)) : RunsC P n l C g ⟨d, .binOp .geq T x y U, ty, pos, af, gd⟩ (.bool (decide (b ≤ a))) := fun hg A w ha _ => by
  simp [execOp, hx.eq hg ha, hy.eq hg ha, eqGuard, binOp, Op.intCmp]
theorem R.eql (hx : Ev n l g x (.int k a)) (hy : Ev n l g y (.int k b)) : RunsC P n l C g ⟨d, .binOp .eql T x y U, ty, pos, af, gd⟩ (.bool (decide (a = b))) := fun hg A w ha _ => by
  simp [execOp, hx.eq hg ha, hy.eq hg ha, eqGuard, binOp, Op.intCmp]; rfl
theorem R.neq (hx : Ev n l g x (.int k a)) (hy : Ev n l g y (.int k b)) : RunsC P n l C g ⟨d, .binOp .neq T x y U, ty, pos, af, gd⟩ (.bool (!decide (a = b))) := fun hg A w ha _ => by
  simp [execOp, hx.eq hg ha, hy.eq hg ha, eqGuard, binOp, Op.intCmp]; rfl
theorem R.conv {V : TypeId} {D : TypeDesc} {kd : IntKind} (hS : P.underlying T = some D) (hD : P.underlying V = some (.int kd)) (hx : Ev n l g x (.int k a)) : RunsC P n l C g ⟨d, .convert T V x, ty, pos, af, gd⟩ (.int kd (kd.wrap a)) := fun hg A w ha _ => by
  simp [execOp, hx.eq hg ha, convert, run_underlying hS, run_underlying hD, Conv.intToInt]
end arith
theorem R.as {o : Oper} {v v' : Value} (h : RunsC P n l C g o v) (hv : g = true → v = v') : RunsC P n l C g o v' := fun hg => by rw [← hv hg]; exact h hg
def buildTab (P : Program) (t : TypeId) : Option (Array Value × List (Nat × Nat)) :=
  match P.info? t, P.underlying t with
  | some it, some (.array n e) => match it.zero, P.info? e with
    | some z, some ie => some (z.cells, (List.range n).map fun i => (i * ie.size, ie.size))
    | _, _ => none
  | some it, some (.struct fields) => match it.zero, fields.toList.mapM (fun f => (P.info? f.type).map fun i => (f.offset, i.size)) with
    | some z, some places => some (z.cells, places)
    | _, _ => none
  | _, _ => none
theorem fill_imp {p q : Nat → Option (Nat × Nat)} (h : ∀ i x, p i = some x → q i = some x) : ∀ (parts : List (Nat × Value)) (z cs : Array Value), Instr.fill p z parts = some cs → Instr.fill q z parts = some cs
  | [], z, cs, hf => hf
  | (i, v) :: rest, z, cs, hf => by
    simp only [Instr.fill] at hf ⊢
    cases hp : p i with
    | none => rw [hp] at hf; cases hf
    | some x =>
      rw [hp] at hf
      rw [h i x hp]
      simp only at hf ⊢
      split at hf
      · cases hf
      · rename_i hc; rw [if_neg hc]; exact fill_imp h rest _ cs hf
theorem built_of {P : Program} {t : TypeId} {z cs : Array Value} {pl : List (Nat × Nat)} {parts : List (Nat × Value)} (hb : buildTab P t = some (z, pl)) (hf : Instr.fill (fun i => pl[i]?) z parts = some cs) : P.built t parts = some cs := by
  unfold buildTab at hb
  unfold Program.built
  split at hb
  · rename_i it n e hi hu
    rw [hi, hu]
    split at hb
    · rename_i zz ie hz hie
      simp only [Option.some.injEq, Prod.mk.injEq] at hb
      obtain ⟨rfl, rfl⟩ := hb
      simp only [hz, hie]
      refine fill_imp (fun i x hx => ?_) _ _ _ hf
      simp only [List.getElem?_map, Option.map_eq_some_iff] at hx
      obtain ⟨j, hj, rfl⟩ := hx
      obtain ⟨hlt, he⟩ := List.getElem?_eq_some_iff.1 hj
      simp at he
      subst he; rfl
    · cases hb
  · rename_i it fields hi hu
    rw [hi, hu]
    split at hb
    · rename_i zz places hz hp
      simp only [Option.some.injEq, Prod.mk.injEq] at hb
      obtain ⟨rfl, rfl⟩ := hb
      simp only [hz, hp]
      exact fill_imp (fun i x hx => by simpa using hx) _ _ _ hf
    · cases hb
  · cases hb
inductive Cs : List Value → List (List Value) → Prop
  | nil : Cs [] []
  | cons {v : Value} {c : List Value} {vs : List Value} {cs : List (List Value)} : v.cells = c.toArray → Cs vs cs → Cs (v :: vs) (c :: cs)
theorem fill_cells {p : Nat → Option (Nat × Nat)} : ∀ {ix : List Nat} {vs : List Value} {cc : List (List Value)} (z : Array Value), Cs vs cc → Instr.fill p z (ix.zip vs) = Instr.fill p z (ix.zip (cc.map fun c => .agg c.toArray))
  | [], vs, cc, z, _ => by simp
  | i :: ix, _, _, z, .nil => by simp
  | i :: ix, v :: vs, c :: cc, z, .cons h1 h2 => by
    have hv : (Value.agg c.toArray).cells = c.toArray := rfl
    simp only [List.zip_cons_cons, List.map_cons, Instr.fill, h1, hv]
    split
    · rfl
    · split
      · rfl
      · exact fill_cells _ h2
def setL (cs : List Value) : Nat → List Value → List Value
  | _, [] => cs
  | i, v :: vs => setL (cs.set i v) (i + 1) vs
theorem setL_fold (off : Nat) : ∀ (c : List Value) (k : Nat) (cells : Array Value), (c.zipIdx k).foldl (fun cs (x : Value × Nat) => cs.setIfInBounds (off + x.2) x.1) cells = (setL cells.toList (off + k) c).toArray
  | [], k, cells => by simp [setL]
  | v :: vs, k, cells => by
    simp only [List.zipIdx_cons, List.foldl_cons, setL]
    rw [setL_fold off vs (k + 1)]
    simp [Nat.add_assoc]
def fillL (pl : List (Nat × Nat)) : List Value → List Nat → List (List Value) → Option (List Value)
  | cs, i :: ix, c :: cc => match pl[i]? with
    | some (off, size) => if Nat.beq c.length size && Nat.ble (off + c.length) cs.length then fillL pl (setL cs off c) ix cc else none
    | none => none
  | cs, _, _ => some cs
theorem fill_of {pl : List (Nat × Nat)} : ∀ (ix : List Nat) (cc : List (List Value)) (z : Array Value) (r : List Value), fillL pl z.toList ix cc = some r → Instr.fill (fun i => pl[i]?) z (ix.zip (cc.map fun c => .agg c.toArray)) = some r.toArray
  | [], cc, z, r, h => by simp [fillL] at h; subst h; simp [Instr.fill]
  | i :: ix, [], z, r, h => by simp [fillL] at h; subst h; simp [Instr.fill]
  | i :: ix, c :: cc, z, r, h => by
    simp only [fillL] at h
    split at h
    · rename_i off size hp
      split at h
      · rename_i hc
        simp only [Bool.and_eq_true] at hc
        have h1 : c.length = size := Nat.eq_of_beq_eq_true hc.1
        have h2 : off + c.length ≤ z.toList.length := Nat.le_of_ble_eq_true hc.2
        have hv : (Value.agg c.toArray).cells = c.toArray := rfl
        simp only [List.map_cons, List.zip_cons_cons, Instr.fill, hp, hv]
        have h3 : c.toArray.zipIdx.foldl (fun cs (x : Value × Nat) => cs.setIfInBounds (off + x.2) x.1) z = (setL z.toList off c).toArray := by
          have := setL_fold off c 0 z
          simpa using this
        rw [if_neg (by simp at h2 ⊢; omega)]
        refine Eq.trans ?_ (fill_of ix cc (setL z.toList off c).toArray r (by simpa using h))
        congr 1
      · cases h
    · cases h
def plainD : TypeDesc → Bool
  | .struct _ => false
  | .array _ _ => false
  | _ => true
theorem run_isAgg {P : Program} {T : TypeId} {D : TypeDesc} (hT : P.underlying T = some D) (w : World) : (isAgg T).run P w = .ok (!plainD D) w := by
  unfold isAgg
  cases D <;> simp [run_underlying hT, plainD]
theorem run_sizeOf {P : Program} {T : TypeId} {m : Nat} (hs : (P.info? T).map (·.size) = some m) (w : World) : (sizeOf T).run P w = .ok m w := by
  cases hi : P.info? T with
  | none => rw [hi] at hs; cases hs
  | some inf => rw [hi] at hs; simp at hs; simp [sizeOf, typeInfo, hi, hs]
theorem R.load {x : Operand} {T : TypeId} {D : TypeDesc} {b i : Nat} {v : Value} (hT : P.underlying T = some D) (hD : plainD D = true) (hx : Ev n l g x (.pointer (some ⟨b, i, none⟩))) (hc : CellIn C b i v) :
    RunsC P n l C g ⟨d, .load T x, ty, pos, af, gd⟩ v := fun hg a w ha hw => by
  have h1 := hc w hw
  have h2 := run_isAgg hT w
  rw [hD] at h2
  simp [execOp, hx.eq hg ha, Instr.loadAt, Instr.sureAddr, loadVar, h2, h1]
theorem add_addr (b i k : Nat) : (⟨b, i, none⟩ : Addr).add k = ⟨b, i + k, none⟩ := by
  unfold Addr.add; split <;> simp_all
def CellsIn (C : World → Prop) (b i : Nat) (vs : List Value) : Prop := ∀ w, C w → ∀ j v, vs[j]? = some v → w.cell? ⟨b, i + j, none⟩ = some v
def CellsAt (cs : Array Value) : Nat → List Value → Prop
  | _, [] => True
  | i, v :: vs => cs[i]? = some v ∧ CellsAt cs (i + 1) vs
theorem CellsAt.at_ {cs : Array Value} : ∀ {vs : List Value} {i : Nat}, CellsAt cs i vs → ∀ j v, vs[j]? = some v → cs[i + j]? = some v
  | v :: vs, i, h, 0, u, hu => by simp at hu; subst hu; exact h.1
  | v :: vs, i, h, j + 1, u, hu => by
    have := CellsAt.at_ h.2 j u (by simpa using hu)
    rw [← this]; congr 1; omega
theorem run_loadCellsFrom (P : Program) {w : World} {b i : Nat} : ∀ (vs : List Value) (k : Nat) (acc : Array Value), (∀ j v, vs[j]? = some v → w.cell? ⟨b, i + (k + j), none⟩ = some v) →
    (loadCellsFrom ⟨b, i, none⟩ k vs.length acc).run P w = .ok (acc ++ vs.toArray) w
  | [], k, acc, _ => by simp [loadCellsFrom]
  | v :: vs, k, acc, h => by
    have h0 := h 0 v rfl
    have ih := run_loadCellsFrom P (b := b) (i := i) vs (k + 1) (acc.push v) (fun j u hu => by have := h (j + 1) u (by simpa using hu); rw [← this]; congr 2; omega)
    simp only [Nat.add_zero] at h0
    simp [loadCellsFrom, add_addr, h0, ih]
theorem R.loadAgg {x : Operand} {T : TypeId} {D : TypeDesc} {b i : Nat} {vs : List Value} (hT : P.underlying T = some D) (hD : plainD D = false) (hs : (P.info? T).map (·.size) = some vs.length)
    (hx : Ev n l g x (.pointer (some ⟨b, i, none⟩))) (hc : CellsIn C b i vs) :
    RunsC P n l C g ⟨d, .load T x, ty, pos, af, gd⟩ (.agg vs.toArray) := fun hg a w ha hw => by
  have h1 := hc w hw
  have h2 := run_isAgg hT w
  rw [hD] at h2
  have h3 := run_sizeOf hs w
  have h4 := run_loadCellsFrom P (b := b) (i := i) vs 0 #[] (fun j v hv => by have := h1 j v hv; rw [← this]; congr 2; omega)
  simp only [List.append_toArray, List.nil_append] at h4
  simp [execOp, hx.eq hg ha, Instr.loadAt, Instr.sureAddr, loadVar, h2, h3, loadCells, h4]
theorem csin {C : World → Prop} {b i : Nat} {cs : Array Value} {T : TypeId} {fz : Nat × Nat} {vs : List Value} (hm : Holds C (.blk b (.cells cs T fz))) (hc : CellsAt cs i vs) : CellsIn C b i vs :=
  fun w h j v hv => cell_of_blk (hm w h) (hc.at_ j v hv)
def fieldOff? (P : Program) (s f : Nat) : Option Nat :=
  match P.underlying s with
  | some (.struct fs) => match fs[f]? with
    | some fd => match P.info? fd.type with
      | some inf => if inf.size = 0 then none else some fd.offset
      | none => none
    | none => none
  | _ => none
theorem R.fieldAddr {x : Operand} {s f b i off : Nat} (hf : fieldOff? P s f = some off) (hx : Ev n l g x (.pointer (some ⟨b, i, none⟩))) :
    RunsC P n l C g ⟨d, .fieldAddr s x f, ty, pos, af, gd⟩ (.pointer (some ⟨b, i + off, none⟩)) := fun hg a w ha _ => by
  unfold fieldOff? at hf
  split at hf
  · rename_i fs hs
    split at hf
    · rename_i fd hfd
      split at hf
      · rename_i inf hi
        split at hf
        · cases hf
        · rename_i hsz
          injection hf with hf
          subst hf
          simp [execOp, hx.eq hg ha, Instr.fieldAt, run_underlying hs, hfd, Instr.sureAddr, fieldPlace, run_sizeOf (P := P) (T := fd.type) (m := inf.size) (by simp [hi]), hsz, add_addr]
      · cases hf
    · cases hf
  · cases hf
theorem R.indexArr {x y : Operand} {T E len b i m : Nat} {k : IntKind} {j : Int} (hT : P.underlying T = some (.array len E)) (hs : (P.info? E).map (·.size) = some m) (hx : Ev n l g x (.pointer (some ⟨b, i, none⟩))) (hy : Ev n l g y (.int k j))
    (hj : g = true → 0 ≤ j ∧ j < len) : RunsC P n l C g ⟨d, .indexAddr T x y, ty, pos, af, gd⟩ (.pointer (some ⟨b, i + j.toNat * m, none⟩)) := fun hg a w ha _ => by
  obtain ⟨h1, h2⟩ := hj hg
  simp [execOp, hx.eq hg ha, hy.eq hg ha, Instr.indexAt, run_underlying hT, asIntOf, Instr.sureAddr, run_sizeOf hs, add_addr, h1, h2]
theorem R.indexSl {x y : Operand} {T E b i len cap m : Nat} {k : IntKind} {j : Int} (hT : P.underlying T = some (.slice E)) (hs : (P.info? E).map (·.size) = some m) (hx : Ev n l g x (.slice (some ⟨b, i, none⟩) len cap)) (hy : Ev n l g y (.int k j))
    (hj : g = true → 0 ≤ j ∧ j < len) : RunsC P n l C g ⟨d, .indexAddr T x y, ty, pos, af, gd⟩ (.pointer (some ⟨b, i + j.toNat * m, none⟩)) := fun hg a w ha _ => by
  obtain ⟨h1, h2⟩ := hj hg
  simp [execOp, hx.eq hg ha, hy.eq hg ha, Instr.indexAt, run_underlying hT, asIntOf, run_sizeOf hs, add_addr, h1, h2]
theorem R.extract {x : Operand} {j : Nat} {vs : Array Value} {v : Value} (hx : Ev n l g x (.tuple vs)) (hv : vs[j]? = some v) : RunsC P n l C g ⟨d, .extract x j, ty, pos, af, gd⟩ v := fun hg a w ha _ => by
  simp [execOp, hx.eq hg ha, Instr.extract, hv]
theorem R.lenSl {x : Operand} {T : TypeId} {E len cap : Nat} {A : Option Addr} (hT : P.underlying T = some (.slice E)) (hx : Ev n l g x (.slice A len cap)) :
    RunsC P n l C g ⟨d, .call { callee := .builtin .len, args := #[x], argTypes := #[T] }, ty, pos, af, gd⟩ (.int .i64 len) := fun hg a w ha _ => by
  simp [execOp, resolve, invoke, builtin, hx.eq hg ha, Builtin.len_, run_underlying hT, goInt]
theorem R.max2 {x y : Operand} {T U : TypeId} {k k' : IntKind} {a b : Int} (hx : Ev n l g x (.int k a)) (hy : Ev n l g y (.int k' b)) :
    RunsC P n l C g ⟨d, .call { callee := .builtin .max, args := #[x, y], argTypes := #[T, U] }, ty, pos, af, gd⟩ (.int k (max a b)) := fun hg A w ha _ => by
  have e : (if b > a then b else a) = max a b := by rw [Int.max_def]; split <;> split <;> omega
  simp [execOp, resolve, invoke, builtin, hx.eq hg ha, hy.eq hg ha, Builtin.max_, Builtin.max2]
  simpa using e
theorem R.min2 {x y : Operand} {T U : TypeId} {k k' : IntKind} {a b : Int} (hx : Ev n l g x (.int k a)) (hy : Ev n l g y (.int k' b)) :
    RunsC P n l C g ⟨d, .call { callee := .builtin .min, args := #[x, y], argTypes := #[T, U] }, ty, pos, af, gd⟩ (.int k (min a b)) := fun hg A w ha _ => by
  have e : (if b < a then b else a) = min a b := by rw [Int.min_def]; split <;> split <;> omega
  simp [execOp, resolve, invoke, builtin, hx.eq hg ha, hy.eq hg ha, Builtin.min_, Builtin.min2]
  simpa using e
theorem R.nilCheckP {x : Operand} {b i : Nat} (hx : Ev n l g x (.pointer (some ⟨b, i, none⟩))) : RunsC P n l C g ⟨d, .nilCheck x, ty, pos, af, gd⟩ (.pointer (some ⟨b, i, none⟩)) := fun hg a w ha _ => by
  simp [execOp, hx.eq hg ha]
theorem R.makeFunc {fn : Go.Fn} {fs cs : List Operand} {us vs : List Value} (h1 : Evs n l g fs us) (h2 : Evs n l g cs vs) :
    RunsC P n l C g ⟨d, .makeFunc fn fs.toArray cs.toArray, ty, pos, af, gd⟩ (.func fn us.toArray vs.toArray) := fun hg a w ha _ => by
  simp [execOp, Instr.makeFunc, h1.eq hg ha, h2.eq hg ha]
theorem R.build {t : TypeId} {parts : List (Nat × Operand)} {vs : List Value} {cc : List (List Value)} {z : List Value} {cs : List Value} {pl : List (Nat × Nat)} (hb : buildTab P t = some (z.toArray, pl)) (hv : Evs n l g (parts.map (·.2)) vs)
    (hc : Cs vs cc) (hf : fillL pl z (parts.map (·.1)) cc = some cs) : RunsC P n l C g ⟨d, .build t parts.toArray, ty, pos, af, gd⟩ (.agg cs.toArray) := fun hg a w ha _ => by
  have h1 : (parts.map fun x => (x.1, a.eval x.2)) = (parts.map (·.1)).zip vs := by
    rw [← hv.eq hg ha]
    clear hv hc hf
    induction parts with
    | nil => rfl
    | cons x r ih => simp only [List.map_cons, List.zip_cons_cons]; rw [ih]
  have h2 : P.built t ((parts.map (·.1)).zip vs) = some cs.toArray := built_of hb (by rw [fill_cells _ hc]; exact fill_of _ _ _ _ (by simpa using hf))
  have h3 := run_build w t ((parts.map (·.1)).zip vs).toArray cs.toArray (by simpa using h2)
  simp only [execOp, List.map_toArray]
  rw [h1, Sem.run_bind, h3]
  simp
end
end Go.Proofs.YtbolanigdkgbdaaGreat
namespace Go.Proofs.YtbolanigdkgbdaaGreat
open Go Go.RowKit
set_option linter.unusedSectionVars false
variable [Df]
theorem Ent.keep {w w' : World} {e : Ent} (h : e.holds w) (hs : w.heap.size ≤ w'.heap.size) (hk : ∀ k, e.key = some k → w'.heap[k]? = w.heap[k]?) : e.holds w' := by
  cases e with
  | blk b o => exact (hk b rfl).trans h
  | row v E sz n xs =>
    obtain ⟨hl, h | ⟨g, cap, cur, rfl, hb, hg, hr⟩⟩ := h
    · exact ⟨hl, .inl h⟩
    · exact ⟨hl, .inr ⟨g, cap, cur, rfl, hb, (hk g rfl).trans hg, hr⟩⟩
  | rd v sz n xs =>
    obtain ⟨A, cap, rfl, h1, h2, h3, h4⟩ := h
    refine ⟨A, cap, rfl, h1, h2, h3, fun hn => ?_⟩
    obtain ⟨b, o, rfl, hb, hc⟩ := h4 hn
    refine ⟨b, o, rfl, by omega, fun j u hu => ?_⟩
    have := hk b (by simp [Ent.key, Value.ownBlock]; omega)
    rw [← hc j u hu]
    simp [World.cell?, this]
theorem Ent.lt {w : World} {e : Ent} (h : e.holds w) {k : Nat} (hk : e.key = some k) : k < w.heap.size := by
  cases e with
  | blk b o =>
    injection hk with hk; subst hk
    rcases Nat.lt_or_ge b w.heap.size with h' | h'
    · exact h'
    · have h2 : w.heap[b]? = some o := h
      rw [Array.getElem?_eq_none h'] at h2; cases h2
  | row v E sz n xs => exact (World.ownsRow.lt h k hk).2
  | rd v sz n xs =>
    obtain ⟨A, cap, rfl, h1, h2, h3, h4⟩ := h
    simp only [Ent.key] at hk
    split at hk
    · cases hk
    · obtain ⟨b, o, rfl, hb, _⟩ := h4 (by omega)
      simp [Value.ownBlock] at hk
      omega
theorem St.refl {w : World} {S H : Hp} (h : ∀ e ∈ H, e.holds w) (hS : ∀ e ∈ S, e.holds w) (hn : (keys H).Nodup) (ha : ∀ k ∈ keys S, k ∉ keys H) : St w w S [] H :=
  ⟨rfl, rfl, rfl, Nat.le_refl _, by simpa using h, hS, by simpa using hn, by simpa using ha, by simp, fun _ _ _ _ => rfl⟩
theorem St.refl0 {w : World} {S H : Hp} (h : ∀ e ∈ H, e.holds w) (hS : ∀ e ∈ S, e.holds w) (hn : (keys H).Nodup) (ha : ∀ k ∈ keys S, k ∉ keys H) : @St noDf w w S [] H := @St.refl noDf w S H h hS hn ha
theorem mem_keys {l : Hp} {e : Ent} {k : Nat} (he : e ∈ l) (hk : e.key = some k) : k ∈ keys l := List.mem_filterMap.2 ⟨e, he, hk⟩
theorem keys_append (a b : Hp) : keys (a ++ b) = keys a ++ keys b := List.filterMap_append
theorem keys_lt {w : World} {l : Hp} (h : ∀ e ∈ l, e.holds w) : ∀ k ∈ keys l, k < w.heap.size := fun k hk => by
  obtain ⟨e, he, hek⟩ := List.mem_filterMap.1 hk
  exact Ent.lt (h e he) hek
theorem St.drew {w0 w : World} {S N H : Hp} (h : St w0 w S N H) : St w0 w.drew S N H :=
  ⟨h.os, h.tape, h.output, h.size, fun e he => Ent.keep (h.has e he) (Nat.le_refl _) (fun _ _ => rfl), fun e he => Ent.keep (h.hasS e he) (Nat.le_refl _) (fun _ _ => rfl), h.nodup, h.apart, h.fresh, h.old⟩
theorem heap_alloc_lt (w : World) (o : Obj) {k : Nat} (hk : k < w.heap.size) : (w.alloc o).heap[k]? = w.heap[k]? := by
  unfold World.alloc; rw [Array.getElem?_push]; simp; omega
theorem heap_alloc_new' (w : World) (o : Obj) : (w.alloc o).heap[w.heap.size]? = some o := by unfold World.alloc; simp
theorem St.alloc {w0 w : World} {S N H : Hp} (h : St w0 w S N H) (o : Obj) : St w0 (w.alloc o) S (.blk w.heap.size o :: N) H := by
  have hlt := keys_lt h.has
  refine ⟨h.os, h.tape, h.output, by rw [World.size_alloc]; exact Nat.le_succ_of_le h.size, fun e he => ?_, fun e he => ?_, ?_, fun k hk => ?_, fun e he k hk => ?_, fun b hb hn ho => ?_⟩
  · rcases List.mem_cons.1 he with rfl | he
    · exact heap_alloc_new' w o
    · exact Ent.keep (h.has e he) (by rw [World.size_alloc]; exact Nat.le_succ _) fun k hk => heap_alloc_lt w o (hlt k (mem_keys he hk))
  · exact Ent.keep (h.hasS e he) (by rw [World.size_alloc]; exact Nat.le_succ _) fun k hk => heap_alloc_lt w o (Ent.lt (h.hasS e he) hk)
  · show (w.heap.size :: keys (N ++ H)).Nodup
    exact List.nodup_cons.2 ⟨fun hk => Nat.lt_irrefl _ (hlt _ hk), h.nodup⟩
  · show k ∉ w.heap.size :: keys (N ++ H)
    intro hm
    rcases List.mem_cons.1 hm with rfl | hm
    · exact Nat.lt_irrefl _ (keys_lt h.hasS _ hk)
    · exact h.apart k hk hm
  · rcases List.mem_cons.1 he with rfl | he
    · injection hk with hk; subst hk; exact .inl h.size
    · exact h.fresh e he k hk
  · rw [heap_alloc_lt w o (Nat.lt_of_lt_of_le hb h.size)]; exact h.old b hb hn ho
inductive UpL : Hp → Ent → Ent → Hp → Prop
  | here {l : Hp} {e e' : Ent} : UpL (e :: l) e e' (e' :: l)
  | there {l l' : Hp} {x e e' : Ent} : UpL l e e' l' → UpL (x :: l) e e' (x :: l')
inductive Up : Hp → Hp → Ent → Ent → Hp → Hp → Prop
  | n {N H N' : Hp} {e e' : Ent} : UpL N e e' N' → Up N H e e' N' H
  | h {N H H' : Hp} {e e' : Ent} : UpL H e e' H' → Up N H e e' N H'
theorem UpL.mem {l l' : Hp} {e e' : Ent} (h : UpL l e e' l') : e ∈ l := by
  induction h with
  | here => exact List.mem_cons_self
  | there _ ih => exact List.mem_cons_of_mem _ ih
theorem UpL.form {l l' : Hp} {e e' : Ent} (h : UpL l e e' l') : ∃ a b, l = a ++ e :: b ∧ l' = a ++ e' :: b := by
  induction h with
  | here => exact ⟨[], _, rfl, rfl⟩
  | @there _ _ x _ _ _ ih => obtain ⟨a, b, rfl, rfl⟩ := ih; exact ⟨x :: a, b, rfl, rfl⟩
theorem St.upd {w0 w w' : World} {S N H N' H' : Hp} {e e' : Ent} (h : St w0 w S N H) (hu : Up N H e e' N' H') (hk : e'.key = e.key) (he' : e'.holds w')
    (hos : w'.os = w.os) (htape : w'.tape = w.tape) (hout : w'.output = w.output) (hsz : w.heap.size ≤ w'.heap.size)
    (hoth : ∀ k, k < w.heap.size → some k ≠ e.key → w'.heap[k]? = w.heap[k]?) : St w0 w' S N' H' := by
  have key : ∀ {l l' : Hp}, UpL l e e' l' → keys l' = keys l := fun hl => by
    obtain ⟨a, b, rfl, rfl⟩ := hl.form
    simp [keys, List.filterMap_append, List.filterMap_cons, hk]
  have hN : keys N' = keys N := by cases hu with | n hl => exact key hl | h hl => rfl
  have hH : keys H' = keys H := by cases hu with | n hl => rfl | h hl => exact key hl
  have hm : e ∈ N ++ H := by cases hu with | n hl => exact List.mem_append_left _ hl.mem | h hl => exact List.mem_append_right _ hl.mem
  have hNH : keys (N' ++ H') = keys (N ++ H) := by rw [keys_append, keys_append, hN, hH]
  -- every other entry has another key
  have hsplit : ∃ a b, N ++ H = a ++ e :: b ∧ N' ++ H' = a ++ e' :: b := by
    cases hu with
    | n hl => obtain ⟨a, b, rfl, rfl⟩ := hl.form; exact ⟨a, b ++ H, by simp, by simp⟩
    | h hl => obtain ⟨a, b, rfl, rfl⟩ := hl.form; exact ⟨N ++ a, b, by simp, by simp⟩
  obtain ⟨a, b, h1, h2⟩ := hsplit
  have hkeep : ∀ x ∈ a ++ b, x.holds w' := fun x hx => by
    have hxw : x.holds w := h.has x (by rw [h1]; rcases List.mem_append.1 hx with hx | hx <;> simp [hx])
    refine Ent.keep hxw hsz fun k hxk => hoth k (Ent.lt hxw hxk) fun hke => ?_
    have hnd := h.nodup
    rw [h1, keys_append] at hnd
    have hek : keys (e :: b) = k :: keys b := by simp [keys, ← hke]
    rw [hek] at hnd
    rcases List.mem_append.1 hx with hx | hx
    · exact (List.nodup_append.1 hnd).2.2 k (mem_keys hx hxk) k List.mem_cons_self rfl
    · exact (List.nodup_cons.1 (List.nodup_append.1 hnd).2.1).1 (mem_keys hx hxk)
  refine ⟨hos.trans h.os, htape.trans h.tape, hout.trans h.output, Nat.le_trans h.size hsz, fun x hx => ?_, fun x hx => ?_, by rw [hNH]; exact h.nodup, fun k hkS => by rw [hNH]; exact h.apart k hkS, fun x hx k hxk => ?_, fun c hc hn ho => ?_⟩
  · rw [h2] at hx
    rcases List.mem_append.1 hx with hx | hx
    · exact hkeep x (List.mem_append_left _ hx)
    · rcases List.mem_cons.1 hx with rfl | hx
      · exact he'
      · exact hkeep x (List.mem_append_right _ hx)
  · refine Ent.keep (h.hasS x hx) hsz fun k hxk => hoth k (Ent.lt (h.hasS x hx) hxk) fun hke => ?_
    exact h.apart k (mem_keys hx hxk) (mem_keys hm hke.symm)
  · have : k ∈ keys N := by rw [← hN]; exact mem_keys hx hxk
    obtain ⟨y, hy, hyk⟩ := List.mem_filterMap.1 this
    exact h.fresh y hy k hyk
  · rw [hH] at hn
    rw [← h.old c hc hn ho]
    refine hoth c (Nat.lt_of_lt_of_le hc h.size) fun hke => ?_
    rcases List.mem_append.1 hm with hm | hm
    · rcases h.fresh e hm c hke.symm with h1 | h1
      · omega
      · exact ho h1
    · exact hn (mem_keys hm hke.symm)
theorem heap_setCell_same {w : World} {b i : Nat} {cs : Array Value} {T : TypeId} {fz : Nat × Nat} (h : w.heap[b]? = some (.cells cs T fz)) (v : Value) :
    (w.setCell ⟨b, i, none⟩ v).heap[b]? = some (.cells (cs.setIfInBounds i v) T fz) := by
  simp [World.setCell, Array.getElem?_modify, h]
theorem heap_setCell_ne {w : World} {b i k : Nat} (v : Value) (h : k ≠ b) : (w.setCell ⟨b, i, none⟩ v).heap[k]? = w.heap[k]? := by
  simp only [World.setCell, Array.getElem?_modify]
  split
  · rename_i e; exact absurd e.symm h
  · rfl
theorem St.setCell {w0 w : World} {S N H N' H' : Hp} {b i : Nat} {cs : Array Value} {T : TypeId} {fz : Nat × Nat} {v : Value} (h : St w0 w S N H)
    (hu : Up N H (.blk b (.cells cs T fz)) (.blk b (.cells (cs.setIfInBounds i v) T fz)) N' H') : St w0 (w.setCell ⟨b, i, none⟩ v) S N' H' := by
  have hm : Ent.blk b (.cells cs T fz) ∈ N ++ H := by cases hu with | n hl => exact List.mem_append_left _ hl.mem | h hl => exact List.mem_append_right _ hl.mem
  refine h.upd hu rfl (heap_setCell_same (h.has _ hm) v) rfl rfl rfl (by simp [World.setCell]) fun k _ hk => heap_setCell_ne v fun e => hk (by rw [e]; rfl)
theorem noOw {k n : Nat} (h : n ≤ k ∨ k ∈ noDf.ow) : n ≤ k := h.elim id (fun h => nomatch h)
theorem noOwN {k : Nat} : k ∉ noDf.ow := fun h => nomatch h
theorem St.pure {w0 w w' : World} {S S' N H N' : Hp} (h : St w0 w S N H) (h' : @St noDf w w' S' N' []) : St w0 w' S (N' ++ N) H := by
  have hkeep : ∀ e : Ent, e.holds w → e.holds w' := fun e he => Ent.keep he h'.size fun k hk => h'.old k (Ent.lt he hk) (by simp [keys]) noOwN
  have hge : ∀ k ∈ keys N', w.heap.size ≤ k := fun k hk => by
    obtain ⟨e, he, hek⟩ := List.mem_filterMap.1 hk
    exact noOw (h'.fresh e he k hek)
  have hnd : (keys N').Nodup := by have := h'.nodup; simpa using this
  refine ⟨h'.os.trans h.os, h'.tape.trans h.tape, h'.output.trans h.output, Nat.le_trans h.size h'.size, fun e he => ?_, fun e he => hkeep e (h.hasS e he), ?_, fun k hk => ?_, fun e he k hk => ?_, fun b hb hn ho => ?_⟩
  · rw [List.append_assoc] at he
    rcases List.mem_append.1 he with he | he
    · exact h'.has e (by simpa using he)
    · exact hkeep e (h.has e he)
  · rw [List.append_assoc, keys_append]
    refine List.nodup_append.2 ⟨hnd, h.nodup, fun a ha b hb => ?_⟩
    have := keys_lt h.has b hb
    have := hge a ha
    omega
  · rw [List.append_assoc, keys_append]
    intro hm
    rcases List.mem_append.1 hm with hm | hm
    · have := hge k hm; have := keys_lt h.hasS k hk; omega
    · exact h.apart k hk hm
  · rcases List.mem_append.1 he with he | he
    · exact .inl (Nat.le_trans h.size (noOw (h'.fresh e he k hk)))
    · exact h.fresh e he k hk
  · rw [h'.old b (Nat.lt_of_lt_of_le hb h.size) (by simp [keys]) noOwN]
    exact h.old b hb hn ho
theorem St.forget {w0 w : World} {S N N' H : Hp} (h : St w0 w S N H) (hs : N'.Sublist N) : St w0 w S N' H := by
  have hsub : (N' ++ H).Sublist (N ++ H) := hs.append (List.Sublist.refl H)
  have hk : (keys (N' ++ H)).Sublist (keys (N ++ H)) := hsub.filterMap _
  exact ⟨h.os, h.tape, h.output, h.size, fun e he => h.has e (hsub.subset he), h.hasS, hk.nodup h.nodup, fun k hkS hm => h.apart k hkS (hk.subset hm), fun e he => h.fresh e (hs.subset he), h.old⟩
theorem St.below {w0 w : World} {S N : Hp} (h : @St noDf w0 w S N []) : Below w0.heap.size w0 w :=
  ⟨h.os, h.tape, h.output, h.size, fun b hb => h.old b hb (by simp [keys]) noOwN⟩
end Go.Proofs.YtbolanigdkgbdaaGreat
namespace Go.Proofs.YtbolanigdkgbdaaGreat
open Go Go.RowKit
set_option linter.unusedSectionVars false
variable [Df]
def At (w0 : World) (n : Nat) (S : Hp) (l : Fr) (N H : Hp) (X : Act → World → Prop) : Prop := ∀ a w, Fk n l a → St w0 w S N H → X a w
section
variable {P : Program} {w0 : World} {n : Nat} {S N H : Hp} {l : Fr} {Q : Exit → Act → World → Prop}
theorem At.seq {x y : Code} (h : At w0 n S l N H (x.wp P (Exit.then (y.wp P Q) Q))) : At w0 n S l N H ((Code.seq x y).wp P Q) := fun a w ha hw => wp_seq (h a w ha hw)
theorem At.block {id : Nat} {c : Code} (h : At w0 n S l N H (c.wp P (Exit.inBlock id Q))) : At w0 n S l N H ((Code.block id c).wp P Q) := fun a w ha hw => wp_block (h a w ha hw)
theorem At.skip (h : At w0 n S l N H (Q .normal)) : At w0 n S l N H (Code.skip.wp P Q) := fun a w ha hw => wp_skip (h a w ha hw)
theorem At.exit {id : Nat} (h : At w0 n S l N H (Q (.exit id))) : At w0 n S l N H ((Code.exit id).wp P Q) := fun a w ha hw => wp_exit (h a w ha hw)
theorem At.ret (h : At w0 n S l N H (Q .ret)) : At w0 n S l N H (Code.ret.wp P Q) := fun a w ha hw => wp_ret (h a w ha hw)
theorem At.condT {c : Operand} {x y : Code} (hc : Ev n l true c (.bool true)) (h : At w0 n S l N H (x.wp P Q)) : At w0 n S l N H ((Code.cond c x y).wp P Q) := fun a w ha hw => wp_cond_true (hc rfl a ha) (h a w ha hw)
theorem At.condF {c : Operand} {x y : Code} (hc : Ev n l true c (.bool false)) (h : At w0 n S l N H (y.wp P Q)) : At w0 n S l N H ((Code.cond c x y).wp P Q) := fun a w ha hw => wp_cond_false (hc rfl a ha) (h a w ha hw)
theorem At.cond {c : Operand} {x y : Code} {t : Bool} (hc : Ev n l true c (.bool t)) (hT : t = true → At w0 n S l N H (x.wp P Q)) (hF : t = false → At w0 n S l N H (y.wp P Q)) : At w0 n S l N H ((Code.cond c x y).wp P Q) :=
  fun a w ha hw => wp_cond_split (hc rfl a ha) (fun e => hT e a w ha hw) (fun e => hF e a w ha hw)
theorem At.condD {c : Operand} {x y : Code} {p : Prop} [Decidable p] (hc : Ev n l true c (.bool (decide p))) (hT : p → At w0 n S l N H (x.wp P Q)) (hF : ¬ p → At w0 n S l N H (y.wp P Q)) : At w0 n S l N H ((Code.cond c x y).wp P Q) :=
  At.cond hc (fun e => hT (of_decide_eq_true e)) (fun e => hF (of_decide_eq_false e))
theorem At.condN {c : Operand} {x y : Code} {p : Prop} [Decidable p] (hc : Ev n l true c (.bool (!decide p))) (hT : ¬ p → At w0 n S l N H (x.wp P Q)) (hF : p → At w0 n S l N H (y.wp P Q)) : At w0 n S l N H ((Code.cond c x y).wp P Q) :=
  At.cond hc (fun e => hT (by simpa using e)) (fun e => hF (by simpa using e))
theorem At.tN {next : Act → World → Prop} (h : At w0 n S l N H next) : At w0 n S l N H (Exit.then next Q .normal) := h
theorem At.tR {next : Act → World → Prop} (h : At w0 n S l N H (Q .ret)) : At w0 n S l N H (Exit.then next Q .ret) := h
theorem At.tE {next : Act → World → Prop} {i : Nat} (h : At w0 n S l N H (Q (.exit i))) : At w0 n S l N H (Exit.then next Q (.exit i)) := h
theorem At.bN {id : Nat} (h : At w0 n S l N H (Q .normal)) : At w0 n S l N H (Exit.inBlock id Q .normal) := h
theorem At.bR {id : Nat} (h : At w0 n S l N H (Q .ret)) : At w0 n S l N H (Exit.inBlock id Q .ret) := h
theorem At.bE {id : Nat} (h : At w0 n S l N H (Q .normal)) : At w0 n S l N H (Exit.inBlock id Q (.exit id)) := fun a w ha hw => by
  simp only [Exit.inBlock, if_true]; exact h a w ha hw
theorem At.weak {l' : Fr} {N' : Hp} {X : Act → World → Prop} (hl : ∀ t v, look l' t = some v → look l t = some v) (hN : N'.Sublist N) (h : At w0 n S l' N' H X) : At w0 n S l N H X :=
  fun a w ha hw => h a w (ha.weak hl) (hw.forget hN)
end
section
variable {P : Program} {ops : Array Oper} {C : World → Prop} {md : Region.Mode}
def NoQ (K : Act → World → Prop) : Exit → Act → World → Prop
  | .normal, a, w => K a w
  | _, _, _ => False
abbrev QF : Exit → Act → World → Prop := fun _ _ _ => False
theorem wpOp_QF {K : Act → World → Prop} {i : Nat} {K' : Act → World → Prop} {a : Act} {w : World} (h : wpOp P ops QF i K' a w) : wpOp P ops (NoQ K) i K' a w := by
  unfold wpOp at *
  cases ho : ops[i]? with
  | none => simp only [ho] at h ⊢; exact h
  | some o =>
    simp only [ho] at h ⊢
    by_cases hw : Region.wanted o (yielded ops a.tmps) = true
    · simp only [hw, if_true] at h ⊢
      refine .inl ?_
      rcases h with h | ⟨_, ⟨_, _, h⟩⟩
      · unfold Oper.wp at *
        generalize (execOp a.eval o).run P w = r at *
        cases r with
        | ok x w' =>
          cases x <;> simp only [Oper.upon] at h ⊢ <;> exact h
          all_goals
            refine Calls.mono h fun e w'' he => ?_
            cases e with
            | returned u => exact he
            | panicked c => exact (he : False).elim
            | outgrown => obtain ⟨_, _, hf⟩ := he; exact (hf : False).elim
        | halt x w' =>
          cases x <;> simp only [Oper.upon] at h ⊢
          exact (h : False).elim
      · exact (h : False).elim
    · simp only [hw] at h ⊢
      exact h
def wpSch (P : Program) (ops : Array Oper) (C : World → Prop) (K : Act → World → Prop) : List (Bool × Nat) → Act → World → Prop
  | [], a, w => K a w
  | (true, i) :: r, a, w => ∃ o v, ops[i]? = some o ∧ YieldsIf P ops C o v a ∧ C w ∧ wpSch P ops C K r (a.put o.dst v) w
  | (false, i) :: r, a, w => wpOp P ops QF i (fun a' w' => C w' ∧ wpSch P ops C K r a' w') a w
def schTo (md : Region.Mode) (ops : Array Oper) : List (Bool × Nat) → Array Bool → Option (Array Bool)
  | [], listed => some listed
  | (true, i) :: r, listed => if (Region.ready md ops listed).contains i && Region.free md ops listed i then schTo md ops r (listed.setIfInBounds i true) else none
  | (false, i) :: r, listed => if Region.ready md ops listed == [i] then schTo md ops r (listed.setIfInBounds i true) else none
theorem wpSch_to {K KK : Act → World → Prop} (hs : Region.noSelect ops = true) (fuel : Nat) (listed' : Array Bool) (hend : ∀ a w, C w → K a w → wpAnyH P md ops (NoQ KK) C fuel listed' a w) :
    ∀ (steps : List (Bool × Nat)) (listed : Array Bool) (a : Act) (w : World), C w → schTo md ops steps listed = some listed' → wpSch P ops C K steps a w → wpAnyH P md ops (NoQ KK) C (fuel + steps.length) listed a w
  | [], listed, a, w, hC, hk, h => by
    injection hk with hk; subst hk
    exact hend a w hC h
  | (true, i) :: r, listed, a, w, hC, hk, h => by
    simp only [schTo] at hk
    split at hk
    · rename_i hc
      simp only [Bool.and_eq_true] at hc
      obtain ⟨o, v, ho, hy, hC, h⟩ := h
      exact wpAnyH_take ho hs hc.2 hc.1 (fun _ _ _ h => h.elim) hy hC (wpSch_to hs fuel listed' hend r _ _ _ hC hk h)
    · cases hk
  | (false, i) :: r, listed, a, w, hC, hk, h => by
    simp only [schTo] at hk
    split at hk
    · rename_i hc
      have hr : Region.ready md ops listed = [i] := by simpa using hc
      refine wpAnyH_all hr (by simp) fun j hj => ?_
      have : j = i := by simpa using hj
      subst this
      exact wpOp_mono (fun a' w' h' => ⟨h'.1, wpSch_to hs fuel listed' hend r _ _ _ h'.1 hk h'.2⟩) (wpOp_QF h)
    · cases hk
theorem noQ_imp {K : Act → World → Prop} {Q : Exit → Act → World → Prop} (h : ∀ a w, K a w → Q .normal a w) : ∀ (e : Exit) (a : Act) (w : World), NoQ K e a w → Q e a w := fun e a w hh => by
  cases e <;> first | exact h a w hh | exact (hh : False).elim
def schOk (md : Region.Mode) (ops : Array Oper) (steps : List (Bool × Nat)) (listed : Array Bool) : Bool :=
  match schTo md ops steps listed with
  | some l => (Region.ready md ops l).isEmpty
  | none => false
theorem wpSch_any {K : Act → World → Prop} (hs : Region.noSelect ops = true) (steps : List (Bool × Nat)) (listed : Array Bool) (a : Act) (w : World) (hC : C w) (hk : schOk md ops steps listed = true) (h : wpSch P ops C K steps a w) :
    wpAnyH P md ops (NoQ K) C steps.length listed a w := by
  unfold schOk at hk
  split at hk
  · rename_i l' hl
    have := wpSch_to (md := md) hs 0 l' (fun a w _ h => wpAnyH_done (by simpa using hk) h 0) steps listed a w hC hl h
    simpa using this
  · cases hk
theorem wp_region_sch {id : Nat} {Q : Exit → Act → World → Prop} {a : Act} {w : World} (steps : List (Bool × Nat)) (hm : P.follows .mixedOrders = true) (hs : Region.noSelect ops = true) (hlen : steps.length = ops.size)
    (hk : schOk .any ops steps (Array.replicate ops.size false) = true) (hC : C w.drew) (h : wpSch P ops C (Q .normal) steps a w.drew) : (Code.region id ops true).wp P Q a w := by
  refine Code.wp_mono (noQ_imp fun _ _ h => h) (wp_region_held (S := C) hm ?_)
  rw [← hlen]
  rw [← hlen] at hk
  exact wpSch_any hs steps _ a w.drew hC hk h
def schOk2 (md : Region.Mode) (ops : Array Oper) (pre : List (Bool × Nat)) (i j : Nat) (r1 r2 : List (Bool × Nat)) (listed : Array Bool) : Bool :=
  match schTo md ops pre listed with
  | some l => (Region.ready md ops l == [i, j]) && schOk md ops r1 (l.setIfInBounds i true) && schOk md ops r2 (l.setIfInBounds j true) && (r1.length == r2.length)
  | none => false
theorem wp_region_sch2 {id : Nat} {Q : Exit → Act → World → Prop} {a : Act} {w : World} (pre : List (Bool × Nat)) (i j : Nat) (r1 r2 : List (Bool × Nat)) (hm : P.follows .mixedOrders = true) (hs : Region.noSelect ops = true) (hlen : pre.length + (r1.length + 1) = ops.size)
    (hk : schOk2 .any ops pre i j r1 r2 (Array.replicate ops.size false) = true) (hC : C w.drew)
    (h : wpSch P ops C (fun a w => wpSch P ops C (Q .normal) ((false, i) :: r1) a w ∧ wpSch P ops C (Q .normal) ((false, j) :: r2) a w) pre a w.drew) : (Code.region id ops true).wp P Q a w := by
  refine Code.wp_mono (noQ_imp fun _ _ h => h) (wp_region_held (S := C) hm ?_)
  unfold schOk2 at hk
  split at hk
  · rename_i l' hl
    simp only [Bool.and_eq_true] at hk
    obtain ⟨⟨⟨hr, h1⟩, h2⟩, h3⟩ := hk
    have hr' : Region.ready .any ops l' = [i, j] := by simpa using hr
    have h3' : r1.length = r2.length := by simpa using h3
    have := wpSch_to (md := .any) (KK := Q .normal) hs (r1.length + 1) l' (fun a w hC hh => wpAnyH_all hr' (by simp) fun x hx => by
      have hx' : x = i ∨ x = j := by simpa using hx
      rcases hx' with rfl | rfl
      · exact wpOp_mono (fun a' w' h' => ⟨h'.1, wpSch_any hs r1 _ _ _ h'.1 h1 h'.2⟩) (wpOp_QF hh.1)
      · exact wpOp_mono (fun a' w' h' => ⟨h'.1, by rw [h3']; exact wpSch_any hs r2 _ _ _ h'.1 h2 h'.2⟩) (wpOp_QF hh.2)) pre _ a w.drew hC hl h
    rw [Nat.add_comm, hlen] at this
    exact this
  · cases hk
theorem wpOps_of_sch {K : Act → World → Prop} : ∀ (l : List Nat) (a : Act) (w : World), (∀ i ∈ l, ops[i]?.isSome) → wpSch P ops C K (l.map fun i => (false, i)) a w → wpOps P ops (NoQ K) l a w
  | [], _, _, _, h => h
  | i :: l, a, w, hi, h => by
    have h' : wpOp P ops QF i (fun a' w' => C w' ∧ wpSch P ops C K (l.map fun i => (false, i)) a' w') a w := h
    rw [wpOps_cons]
    exact wpOp_mono (fun a' w' hh => wpOps_of_sch l a' w' (fun j hj => hi j (List.mem_cons_of_mem _ hj)) hh.2) (wpOp_QF h')
theorem wp_region_plain {id : Nat} {Q : Exit → Act → World → Prop} {a : Act} {w : World} (steps : List (Bool × Nat)) (hst : steps = (List.range ops.size).map fun i => (false, i))
    (h : wpSch P ops (fun _ => True) (Q .normal) steps a w) : (Code.region id ops false).wp P Q a w := by
  refine Code.wp_mono (noQ_imp fun _ _ h => h) (wp_region ?_)
  subst hst
  exact wpOps_of_sch _ a w (fun i hi => by simp at hi; simp [hi]) h
end
section
variable {P : Program} {w0 : World} {n : Nat} {S N H : Hp} {l : Fr} {Q : Exit → Act → World → Prop} {ops : Array Oper} {C : World → Prop} {K : Act → World → Prop} {r : List (Bool × Nat)} {i : Nat}
theorem At.plain {id : Nat} (steps : List (Bool × Nat)) (hst : steps = (List.range ops.size).map fun i => (false, i)) (h : At w0 n S l N H (wpSch P ops (fun _ => True) (Q .normal) steps)) :
    At w0 n S l N H ((Code.region id ops false).wp P Q) := fun a w ha hw => wp_region_plain steps hst (h a w ha hw)
theorem At.nil (h : At w0 n S l N H K) : At w0 n S l N H (wpSch P ops C K []) := h
def Cl (w0 : World) (S N H : Hp) (C : World → Prop) : Prop := ∀ w, St w0 w S N H → C w
theorem Cl.all : Cl w0 S N H (fun _ => True) := fun _ _ => trivial
theorem Cl.kept {L : Hp} (h : ∀ e ∈ L, e ∈ S ++ (N ++ H)) : Cl w0 S N H (Kept L) := fun _ hw e he => (Holds.st (h e he)) _ hw
theorem cl_here {a w} (hw : St w0 w S N H) (_ha : Fk n l a) : Kept (S ++ (N ++ H)) w := Cl.kept (fun _ h => h) w hw
theorem At.drawK {id : Nat} {Q : Exit → Act → World → Prop} (steps : List (Bool × Nat)) (hm : P.follows .mixedOrders = true) (hk : (Region.noSelect ops && (steps.length == ops.size) && schOk .any ops steps (Array.replicate ops.size false)) = true)
    (h : At w0 n S l N H (wpSch P ops (Kept (S ++ (N ++ H))) (Q .normal) steps)) : At w0 n S l N H ((Code.region id ops true).wp P Q) := fun a w ha hw => by
  simp only [Bool.and_eq_true] at hk
  exact wp_region_sch steps hm hk.1.1 (by simpa using hk.1.2) hk.2 (cl_here hw.drew ha) (h a w.drew ha hw.drew)
theorem At.draw2 {id : Nat} {Q : Exit → Act → World → Prop} (pre : List (Bool × Nat)) (i j : Nat) (r1 r2 : List (Bool × Nat)) (hm : P.follows .mixedOrders = true)
    (hk : (Region.noSelect ops && (pre.length + (r1.length + 1) == ops.size) && schOk2 .any ops pre i j r1 r2 (Array.replicate ops.size false)) = true)
    (h : At w0 n S l N H (wpSch P ops (Kept (S ++ (N ++ H))) (fun a w => wpSch P ops (Kept (S ++ (N ++ H))) (Q .normal) ((false, i) :: r1) a w ∧ wpSch P ops (Kept (S ++ (N ++ H))) (Q .normal) ((false, j) :: r2) a w) pre)) :
    At w0 n S l N H ((Code.region id ops true).wp P Q) := fun a w ha hw => by
  simp only [Bool.and_eq_true] at hk
  exact wp_region_sch2 pre i j r1 r2 hm hk.1.1 (by simpa using hk.1.2) hk.2 (cl_here hw.drew ha) (h a w.drew ha hw.drew)
theorem At.both {X Y : Act → World → Prop} (hx : At w0 n S l N H X) (hy : At w0 n S l N H Y) : At w0 n S l N H (fun a w => X a w ∧ Y a w) := fun a w ha hw => ⟨hx a w ha hw, hy a w ha hw⟩
theorem At.s {d : Nat} {o : Oper} {g : Bool} {v : Value} (ho : ops[i]? = some o) (hd : o.dst = some d) (hdn : Nat.blt d n = true) (hg : wantG ops l o = some g) (hC : Cl w0 S N H C) (hr : RunsC P n l C g o v)
    (h : At w0 n S ((d, g, v) :: l) N H (wpSch P ops C K r)) : At w0 n S l N H (wpSch P ops C K ((true, i) :: r)) := fun a w ha hw => by
  have hdn' : d < n := by simpa using hdn
  have hwa := wanted_of ha hg
  cases g with
  | true => exact ⟨o, v, ho, .inl ⟨hwa, fun w' hw' => hr rfl a w' ha hw'⟩, hC w hw, by rw [hd]; exact h _ w (ha.put hdn' rfl) hw⟩
  | false => exact ⟨o, undef, ho, .inr ⟨hwa, rfl⟩, hC w hw, by rw [hd]; exact h _ w (ha.put hdn' rfl) hw⟩
theorem At.sF {d : Nat} {o : Oper} (ho : ops[i]? = some o) (hd : o.dst = some d) (hdn : Nat.blt d n = true) (hg : wantG ops l o = some false) (hC : Cl w0 S N H C)
    (h : At w0 n S ((d, true, undef) :: l) N H (wpSch P ops C K r)) : At w0 n S l N H (wpSch P ops C K ((true, i) :: r)) := fun a w ha hw =>
  ⟨o, undef, ho, .inr ⟨wanted_of ha hg, rfl⟩, hC w hw, by rw [hd]; exact h _ w (ha.put (by simpa using hdn) rfl) hw⟩
theorem At.e {d : Nat} {o : Oper} {g : Bool} {v : Value} (ho : ops[i]? = some o) (hd : o.dst = some d) (hdn : Nat.blt d n = true) (hg : wantG ops l o = some g) (hC : Cl w0 S N H C) (hr : RunsC P n l (fun w => St w0 w S N H) g o v)
    (h : At w0 n S ((d, g, v) :: l) N H (wpSch P ops C K r)) : At w0 n S l N H (wpSch P ops C K ((false, i) :: r)) := fun a w ha hw => by
  have hdn' : d < n := by simpa using hdn
  have hwa := wanted_of ha hg
  show wpOp P ops QF i _ a w
  unfold wpOp
  cases g with
  | true =>
    simp only [ho, hwa, if_true]
    refine .inl ?_
    unfold Oper.wp
    rw [hr rfl a w ha hw, Oper.upon_value, hd]
    exact ⟨hC w hw, h _ w (ha.put hdn' rfl) hw⟩
  | false =>
    simp only [ho, hwa, Bool.false_eq_true, if_false]
    rw [hd]
    exact ⟨hC w hw, h _ w (ha.put hdn' rfl) hw⟩
theorem At.eF {d : Nat} {o : Oper} (ho : ops[i]? = some o) (hd : o.dst = some d) (hdn : Nat.blt d n = true) (hg : wantG ops l o = some false) (hC : Cl w0 S N H C)
    (h : At w0 n S ((d, true, undef) :: l) N H (wpSch P ops C K r)) : At w0 n S l N H (wpSch P ops C K ((false, i) :: r)) := fun a w ha hw => by
  show wpOp P ops QF i _ a w
  unfold wpOp
  simp only [ho, wanted_of ha hg, Bool.false_eq_true, if_false]
  rw [hd]
  exact ⟨hC w hw, h _ w (ha.put (by simpa using hdn) rfl) hw⟩
theorem At.eW {d : Option Nat} {o : Oper} (ho : ops[i]? = some o) (hg : wantG ops l o = some true)
    (h : ∀ a w, Fk n l a → St w0 w S N H → Oper.wp P o a w (fun a' w' => C w' ∧ wpSch P ops C K r a' w') QF) (_hd : o.dst = d := by rfl) :
    At w0 n S l N H (wpSch P ops C K ((false, i) :: r)) := fun a w ha hw => by
  show wpOp P ops QF i _ a w
  unfold wpOp
  simp only [ho, wanted_of ha hg, if_true]
  exact .inl (h a w ha hw)
end
def Callable (P : Program) (f : FuncId) : Prop := ∃ fn, P.funcs[f]? = some fn ∧ (fn.name == "runtime.NumGoroutine") = false ∧ fn.body.isNone = false
def PostOf (w0 : World) (S : Hp) (R : Value → Hp → Hp → Prop) : Ending → World → Prop := fun e w' => ∃ v N' H', R v N' H' ∧ e = .returned v ∧ St w0 w' S N' H'
def Fn (P : Program) (f : FuncId) (args : List Value) (S H : Hp) (R : Value → Hp → Hp → Prop) : Prop :=
  Callable P f ∧ ∀ w, @St noDf w w S [] H → Calls P f args.toArray w (@PostOf noDf w S R)
def numbered : Nat → List Value → Fr
  | _, [] => []
  | k, v :: r => (k, true, v) :: numbered (k + 1) r
theorem look_numbered : ∀ (vs : List Value) (k t : Nat), look (numbered k vs) t = if k ≤ t then (vs[t - k]?).map (fun v => (true, v)) else none
  | [], k, t => by simp [numbered, look]
  | v :: vs, k, t => by
    simp only [numbered, look]
    by_cases h : k = t
    · subst h; simp
    · simp only [h, if_false]
      rw [look_numbered vs (k + 1) t]
      by_cases h1 : k + 1 ≤ t
      · have : t - k = (t - (k + 1)) + 1 := by omega
        rw [if_pos h1, if_pos (by omega), this]; simp
      · rw [if_neg h1, if_neg (by omega)]
theorem Fn.enter {P : Program} {f : FuncId} {fn : Func} {c : Code} {args : List Value} {S H : Hp} {R : Value → Hp → Hp → Prop} {n : Nat} {l0 : Fr} (hf : P.funcs[f]? = some fn) (hname : (fn.name == "runtime.NumGoroutine") = false)
    (hb : fn.body = some c) (hn : max fn.ntmps args.length = n) (hl : numbered 0 args = l0) (h : ∀ w, @At noDf w n S l0 [] H (c.wp P (bodyPost P fn (@PostOf noDf w S R)))) : Fn P f args S H R := by
  refine ⟨⟨fn, hf, hname, by simp [hb]⟩, fun w hw => calls_of_wp hf hb (h w _ w ?_ hw)⟩
  subst hl hn
  refine @Fk.mk noDf _ _ _ ?_ rfl fun t g v ht => ?_
  · simp; omega
  rw [look_numbered] at ht
  simp only [Nat.zero_le, if_true, Nat.sub_zero, Option.map_eq_some_iff, Prod.mk.injEq] at ht
  obtain ⟨u, ht, rfl, rfl⟩ := ht
  have hlt : t < args.length := (List.getElem?_eq_some_iff.1 ht).1
  have hv : args[t] = u := by rw [List.getElem?_eq_getElem hlt] at ht; injection ht
  simp [Array.getElem?_append, hlt, hv]
def resOf (tmps : Array Value) : ResultVar → Sem Value
  | .tmp t => pure (tmps.getD t undef)
  | .cell a t => do loadVar t (← asAddr (tmps.getD a undef))
theorem results_eq (fn : Func) (tmps : Array Value) : results fn tmps = (do
    let vs ← fn.results.mapM (resOf tmps)
    pure (if h : vs.size = 1 then vs[0] else .tuple vs)) := by
  unfold results
  congr 1
def ResV (P : Program) (w0 : World) (n : Nat) (S N H : Hp) (l : Fr) (r : ResultVar) (v : Value) : Prop :=
  ∀ a w, Fk n l a → St w0 w S N H → (resOf a.tmps r).run P w = .ok v w
section
variable {P : Program} {w0 : World} {n : Nat} {S N H : Hp} {l : Fr}
theorem ResV.t {t : Tmp} {v : Value} (h : look l t = some (true, v)) : ResV P w0 n S N H l (.tmp t) v := fun a w ha _ => by
  have := (ha.slot t _ v h).trans (if_pos rfl)
  simp only [resOf, this]; rfl
theorem ResV.a {t : Tmp} {T : TypeId} {D : TypeDesc} {b i : Nat} {vs : List Value} (hT : P.underlying T = some D) (hD : plainD D = false) (hs : (P.info? T).map (·.size) = some vs.length) (h : look l t = some (true, .pointer (some ⟨b, i, none⟩))) (hc : CellsIn (fun w => St w0 w S N H) b i vs) :
    ResV P w0 n S N H l (.cell t T) (.agg vs.toArray) := fun a w ha hw => by
  have h1 := (ha.slot t _ _ h).trans (if_pos rfl)
  have h2 := run_isAgg hT w
  rw [hD] at h2
  have h3 := run_sizeOf hs w
  have h4 := run_loadCellsFrom P (b := b) (i := i) vs 0 #[] (fun j v hv => by have := hc w hw j v hv; rw [← this]; congr 2; omega)
  simp only [List.append_toArray, List.nil_append] at h4
  simp [resOf, h1, asAddr, loadVar, h2, h3, loadCells, h4]
end
theorem At.final {P : Program} {w0 : World} {n : Nat} {S N H : Hp} {l : Fr} {fn : Func} {R : Value → Hp → Hp → Prop} {t : ResultVar} {v : Value} {N' : Hp} (hr : fn.results = #[t]) (hv : ResV P w0 n S N H l t v) (hN : N'.Sublist N) (hR : R v N' H) (hd : (Df.ds : List Deferred) = [] := by rfl) :
    At w0 n S l N H (bodyPost P fn (PostOf w0 S R) .ret) := fun a w ha hw =>
  ⟨ha.defers.trans hd, v, by
    have := hv a w ha hw
    rw [results_eq, hr]
    simp [this], v, N', H, hR, rfl, hw.forget hN⟩
theorem At.final2 {P : Program} {w0 : World} {n : Nat} {S N H : Hp} {l : Fr} {fn : Func} {R : Value → Hp → Hp → Prop} {t u : ResultVar} {v x : Value} {N' : Hp} (hr : fn.results = #[t, u]) (hv : ResV P w0 n S N H l t v) (hx : ResV P w0 n S N H l u x)
    (hN : N'.Sublist N) (hR : R (.tuple #[v, x]) N' H) (hd : (Df.ds : List Deferred) = [] := by rfl) : At w0 n S l N H (bodyPost P fn (PostOf w0 S R) .ret) := fun a w ha hw =>
  ⟨ha.defers.trans hd, .tuple #[v, x], by
    have h1 := hv a w ha hw
    have h2 := hx a w ha hw
    rw [results_eq, hr]
    simp [h1, h2], .tuple #[v, x], N', H, hR, rfl, hw.forget hN⟩
theorem At.final0 {P : Program} {w0 : World} {n : Nat} {S N H : Hp} {l : Fr} {fn : Func} {R : Value → Hp → Hp → Prop} {N' : Hp} (hr : fn.results = #[]) (hN : N'.Sublist N) (hR : R (.tuple #[]) N' H) (e : Exit) (he : e = .ret ∨ e = .normal) (hd : (Df.ds : List Deferred) = [] := by rfl) :
    At w0 n S l N H (bodyPost P fn (PostOf w0 S R) e) := fun a w ha hw => by
  have : a.defers = [] ∧ ∃ v, (results fn a.tmps).run P w = .ok v w ∧ PostOf w0 S R (.returned v) w :=
    ⟨ha.defers.trans hd, .tuple #[], by simp [results, hr], .tuple #[], N', H, hR, rfl, hw.forget hN⟩
  rcases he with rfl | rfl <;> exact this
theorem run_call {P : Program} {n : Nat} {l : Fr} {a : Act} {w : World} {g0 : Bool} (hg0 : g0 = true) (ha : Fk n l a) {fx : Operand} {xs : List Operand} {ats : Array TypeId} {f : FuncId} {fst cap : Array Value} {vs : List Value} (hf : Ev n l g0 fx (.func (.func f) fst cap))
    (hxs : Evs n l g0 xs vs) (hcl : Callable P f) (d : Option Tmp) (ty : TypeId) (pos : String) (af : Array Edge) (g : Option (Nat × Bool)) :
    (execOp a.eval ⟨d, .call { callee := .value fx, args := xs.toArray, argTypes := ats }, ty, pos, af, g⟩).run P w = .ok (.enter f (fst ++ vs.toArray ++ cap)) w := by
  obtain ⟨fn, h1, h2, h3⟩ := hcl
  have h4 : Array.map a.eval xs.toArray = vs.toArray := by rw [List.map_toArray, hxs.eq hg0 ha]
  have h2' : ¬ fn.name = "runtime.NumGoroutine" := by simpa using h2
  have h3' : ¬ fn.body = none := fun e => by rw [e] at h3; cases h3
  simp [execOp, resolve, hf.eq hg0 ha, h4, Deferred.ofValue, invoke, callFunc, h1, h2', h3']
section
variable {P : Program} {w0 : World} {n : Nat} {S N H : Hp} {l : Fr} {ops : Array Oper} {C : World → Prop} {K : Act → World → Prop} {r : List (Bool × Nat)} {i : Nat}
theorem At.callP {d : Nat} {fx : Operand} {xs : List Operand} {ats : Array TypeId} {ty : TypeId} {pos : String} {af : Array Edge} {gd : Option (Nat × Bool)} {f : FuncId} {fst cap : List Value} {vs args : List Value} {S' : Hp} {R : Value → Hp → Hp → Prop}
    (ho : ops[i]? = some ⟨some d, .call { callee := .value fx, args := xs.toArray, argTypes := ats }, ty, pos, af, gd⟩) (hdn : Nat.blt d n = true) (hg : wantG ops l ⟨some d, .call { callee := .value fx, args := xs.toArray, argTypes := ats }, ty, pos, af, gd⟩ = some true)
    (hf : Ev n l true fx (.func (.func f) fst.toArray cap.toArray)) (hxs : Evs n l true xs vs) (hargs : fst ++ vs ++ cap = args) (hc : Fn P f args S' [] R)
    (hS : ∀ e ∈ S', ∀ w, St w0 w S N H → e.holds w)
    (h : ∀ v N' H', R v N' H' → H' = [] ∧ Cl w0 S (N' ++ N) H C ∧ At w0 n S ((d, true, v) :: l) (N' ++ N) H (wpSch P ops C K r)) : At w0 n S l N H (wpSch P ops C K ((false, i) :: r)) :=
  At.eW (d := some d) ho hg fun a w ha hw => by
    unfold Oper.wp
    rw [run_call rfl ha hf hxs hc.1, Oper.upon_enter]
    have hw' : @St noDf w w S' [] [] := St.refl0 (by simp) (fun e he => hS e he w hw) (by simp [keys]) (by simp [keys])
    have hcall := hc.2 w hw'
    have e1 : fst.toArray ++ vs.toArray ++ cap.toArray = args.toArray := by rw [← hargs]; simp
    rw [e1]
    refine hcall.mono ?_
    rintro e w' ⟨v, N', H', hR, rfl, hst⟩
    obtain ⟨rfl, hcl, hat⟩ := h v N' H' hR
    have := hw.pure hst
    exact ⟨hcl w' this, hat _ w' (ha.put (by simpa using hdn) rfl) this⟩
theorem At.callG {d : Nat} {fx : Operand} {xs : List Operand} {ats : Array TypeId} {ty : TypeId} {pos : String} {af : Array Edge} {gd : Option (Nat × Bool)} {g : Bool} {f : FuncId} {fst cap : List Value} {vs args : List Value} {S' : Hp} {R : Value → Hp → Hp → Prop} {v0 : Value}
    (ho : ops[i]? = some ⟨some d, .call { callee := .value fx, args := xs.toArray, argTypes := ats }, ty, pos, af, gd⟩) (hdn : Nat.blt d n = true) (hg : wantG ops l ⟨some d, .call { callee := .value fx, args := xs.toArray, argTypes := ats }, ty, pos, af, gd⟩ = some g)
    (hf : Ev n l g fx (.func (.func f) fst.toArray cap.toArray)) (hxs : Evs n l g xs vs) (hargs : fst ++ vs ++ cap = args) (hc : g = true → Fn P f args S' [] R)
    (hS : ∀ e ∈ S', ∀ w, St w0 w S N H → e.holds w) (hR : g = true → ∀ v N' H', R v N' H' → H' = [] ∧ v = v0) (hC : Cl w0 S N H C)
    (h : At w0 n S ((d, g, v0) :: l) N H (wpSch P ops C K r)) : At w0 n S l N H (wpSch P ops C K ((false, i) :: r)) := fun a w ha hw => by
  have hdn' : d < n := by simpa using hdn
  have hwa := wanted_of ha hg
  show wpOp P ops QF i _ a w
  unfold wpOp
  cases g with
  | false =>
    simp only [ho, hwa, Bool.false_eq_true, if_false]
    exact ⟨hC w hw, h _ w (ha.put hdn' rfl) hw⟩
  | true =>
    simp only [ho, hwa, if_true]
    refine .inl ?_
    unfold Oper.wp
    rw [run_call rfl ha hf hxs (hc rfl).1, Oper.upon_enter]
    have hw' : @St noDf w w S' [] [] := St.refl0 (by simp) (fun e he => hS e he w hw) (by simp [keys]) (by simp [keys])
    have hcall := (hc rfl).2 w hw'
    have e1 : fst.toArray ++ vs.toArray ++ cap.toArray = args.toArray := by rw [← hargs]; simp
    rw [e1]
    refine hcall.mono ?_
    rintro e w' ⟨v, N', H', hR', rfl, hst⟩
    obtain ⟨rfl, rfl⟩ := hR rfl v N' H' hR'
    have := (hw.pure hst).forget (List.sublist_append_right N' N)
    exact ⟨hC w' this, h _ w' (ha.put hdn' rfl) this⟩
def setFrom (cs : Array Value) : Nat → List Value → Array Value
  | _, [] => cs
  | i, v :: vs => setFrom (cs.setIfInBounds i v) (i + 1) vs
theorem run_storeCells (P : Program) {b : Nat} {E : TypeId} : ∀ (vs : List Value) (k j : Nat) (w : World) (cs : Array Value), w.heap[b]? = some (.cells cs E (0, 0)) → j + k + vs.length ≤ cs.size → (∀ v ∈ vs, v.oneCell' = true) →
    ∃ w', (storeCells ⟨b, j, none⟩ vs k).run P w = .ok () w' ∧ w'.heap[b]? = some (.cells (setFrom cs (j + k) vs) E (0, 0)) ∧
      w'.os = w.os ∧ w'.tape = w.tape ∧ w'.output = w.output ∧ w'.heap.size = w.heap.size ∧ ∀ i, i ≠ b → w'.heap[i]? = w.heap[i]?
  | [], k, j, w, cs, hb, _, _ => ⟨w, by simp [storeCells], hb, rfl, rfl, rfl, rfl, fun _ _ => rfl⟩
  | v :: vs, k, j, w, cs, hb, hl, ho => by
    simp only [List.length_cons] at hl
    have hc : w.cell? ⟨b, j + k, none⟩ = some (cs[j + k]'(by omega)) := cell_of_blk hb (Array.getElem?_eq_getElem (by omega))
    have hf : w.frozen? ⟨b, j + k, none⟩ = false := by simp [World.frozen?, hb]
    have h1 : (Go.store ⟨b, j + k, none⟩ v).run P w = .ok () (w.setCell ⟨b, j + k, none⟩ v) := by
      have hone := ho v (by simp)
      cases v <;> first | (cases hone; done) | (simp [Go.store, Sem.run, hc, hf])
    obtain ⟨w', h2, h3, h4, h5, h6, h7, h8⟩ := run_storeCells P vs (k + 1) j (w.setCell ⟨b, j + k, none⟩ v) (cs.setIfInBounds (j + k) v) (heap_setCell_same hb v) (by simp; omega) (fun u hu => ho u (List.mem_cons_of_mem _ hu))
    exact ⟨w', by simp [storeCells, add_addr, h1, h2], h3, h4, h5, h6, by rw [h7]; simp [World.setCell], fun i hi => by rw [h8 i hi]; exact heap_setCell_ne v hi⟩
def IsV (x : Value) : Value → Hp → Hp → Prop := fun v N H => v = x ∧ N = [] ∧ H = []
theorem At.callV {d : Nat} {xs : List Operand} {ats : Array TypeId} {ty : TypeId} {pos : String} {af : Array Edge} {gd : Option (Nat × Bool)} {g : Bool} {f : FuncId} {vs : List Value} {S' : Hp} {v0 : Value}
    (ho : ops[i]? = some ⟨some d, .call { callee := .value (.func f), args := xs.toArray, argTypes := ats }, ty, pos, af, gd⟩) (hdn : Nat.blt d n = true) (hg : wantG ops l ⟨some d, .call { callee := .value (.func f), args := xs.toArray, argTypes := ats }, ty, pos, af, gd⟩ = some g)
    (hxs : Evs n l g xs vs) (hc : g = true → Fn P f vs S' [] (IsV v0)) (hS : ∀ e ∈ S', ∀ w, St w0 w S N H → e.holds w) (hC : Cl w0 S N H C)
    (h : At w0 n S ((d, g, v0) :: l) N H (wpSch P ops C K r)) : At w0 n S l N H (wpSch P ops C K ((false, i) :: r)) :=
  At.callG (fst := []) (cap := []) (args := vs) ho hdn hg Ev.f hxs (by simp) hc hS (fun _ v N' H' hR => ⟨hR.2.2, hR.1⟩) hC h
theorem At.box {d : Nat} {x : Operand} {T ty : TypeId} {pos : String} {af : Array Edge} {gd : Option (Nat × Bool)} {v : Value} (ho : ops[i]? = some ⟨some d, .box T x, ty, pos, af, gd⟩) (hdn : Nat.blt d n = true)
    (hg : wantG ops l ⟨some d, .box T x, ty, pos, af, gd⟩ = some true) (hx : Ev n l true x v)
    (h : ∀ b, w0.heap.size ≤ b → Cl w0 S (.blk b (.cells v.cells T) :: N) H C ∧ At w0 n S ((d, true, .pointer (some ⟨b, 0, none⟩)) :: l) (.blk b (.cells v.cells T) :: N) H (wpSch P ops C K r)) :
    At w0 n S l N H (wpSch P ops C K ((false, i) :: r)) :=
  At.eW (d := some d) ho hg fun a w ha hw => by
    unfold Oper.wp
    have hrun : (execOp a.eval ⟨some d, .box T x, ty, pos, af, gd⟩).run P w = .ok (.value (.pointer (some ⟨w.heap.size, 0, none⟩))) (w.alloc (.cells v.cells T)) := by
      simp [execOp, hx rfl a ha, Instr.box, newVar, newRow]
    rw [hrun, Oper.upon_value]
    obtain ⟨h1, h2⟩ := h w.heap.size hw.size
    have := hw.alloc (.cells v.cells T)
    exact ⟨h1 _ this, h2 _ _ (ha.put (by simpa using hdn) rfl) this⟩
theorem At.alloc {d : Nat} {T ty : TypeId} {pos : String} {af : Array Edge} {gd : Option (Nat × Bool)} {z : Value} (ho : ops[i]? = some ⟨some d, .alloc T, ty, pos, af, gd⟩) (hdn : Nat.blt d n = true)
    (hg : wantG ops l ⟨some d, .alloc T, ty, pos, af, gd⟩ = some true) (hz : (P.info? T).bind (·.zero) = some z)
    (h : ∀ b, w0.heap.size ≤ b → Cl w0 S (.blk b (.cells z.cells T) :: N) H C ∧ At w0 n S ((d, true, .pointer (some ⟨b, 0, none⟩)) :: l) (.blk b (.cells z.cells T) :: N) H (wpSch P ops C K r)) :
    At w0 n S l N H (wpSch P ops C K ((false, i) :: r)) :=
  At.eW (d := some d) ho hg fun a w ha hw => by
    unfold Oper.wp
    have hrun : (execOp a.eval ⟨some d, .alloc T, ty, pos, af, gd⟩).run P w = .ok (.value (.pointer (some ⟨w.heap.size, 0, none⟩))) (w.alloc (.cells z.cells T)) := by
      cases hi : P.info? T with
      | none => rw [hi] at hz; cases hz
      | some inf => rw [hi] at hz; simp at hz; simp [execOp, Instr.alloc, zeroValue, typeInfo, hi, hz, newVar, newRow]
    rw [hrun, Oper.upon_value]
    obtain ⟨h1, h2⟩ := h w.heap.size hw.size
    have := hw.alloc (.cells z.cells T)
    exact ⟨h1 _ this, h2 _ _ (ha.put (by simpa using hdn) rfl) this⟩
theorem At.st1 {p x : Operand} {T ty : TypeId} {pos : String} {af : Array Edge} {gd : Option (Nat × Bool)} {b j : Nat} {v : Value} {cs : Array Value} {E : TypeId} {N' H' : Hp} (ho : ops[i]? = some ⟨none, .store T p x, ty, pos, af, gd⟩)
    (hg : wantG ops l ⟨none, .store T p x, ty, pos, af, gd⟩ = some true) (hs : (P.info? T).map (·.size) = some 1) (hp : Ev n l true p (.pointer (some ⟨b, j, none⟩))) (hx : Ev n l true x v) (hone : v.oneCell' = true) (hj : Nat.blt j cs.size = true)
    (hu : Up N H (.blk b (.cells cs E (0, 0))) (.blk b (.cells (cs.setIfInBounds j v) E (0, 0))) N' H')
    (h : Cl w0 S N' H' C ∧ At w0 n S l N' H' (wpSch P ops C K r)) : At w0 n S l N H (wpSch P ops C K ((false, i) :: r)) :=
  At.eW (d := none) ho hg fun a w ha hw => by
    have hm : Ent.blk b (.cells cs E (0, 0)) ∈ N ++ H := by cases hu with | n hl => exact List.mem_append_left _ hl.mem | h hl => exact List.mem_append_right _ hl.mem
    have hb : w.heap[b]? = some (.cells cs E (0, 0)) := hw.has _ hm
    have hjl : j < cs.size := by simpa using hj
    have hc : w.cell? ⟨b, j, none⟩ = some (cs[j]'hjl) := cell_of_blk hb (Array.getElem?_eq_getElem hjl)
    have hf : w.frozen? ⟨b, j, none⟩ = false := by simp [World.frozen?, hb]
    have hv : v.cells = #[v] := by cases v <;> first | rfl | cases hone
    have hrun : (execOp a.eval ⟨none, .store T p x, ty, pos, af, gd⟩).run P w = .ok .skip (w.setCell ⟨b, j, none⟩ v) := by
      have h1 : (Go.store ⟨b, j, none⟩ v).run P w = .ok () (w.setCell ⟨b, j, none⟩ v) := by
        cases v <;> first | (cases hone; done) | (simp [Go.store, Sem.run, hc, hf])
      simp [execOp, hp rfl a ha, hx rfl a ha, Instr.storeAt, Instr.sureAddr, storeVar, run_sizeOf hs, hv, storeCells, add_addr, h1]
    unfold Oper.wp
    rw [hrun, Oper.upon_skip]
    have := hw.setCell (v := v) hu
    exact ⟨h.1 _ this, h.2 _ _ ha this⟩
theorem At.stN {p x : Operand} {T ty : TypeId} {pos : String} {af : Array Edge} {gd : Option (Nat × Bool)} {b j m : Nat} {vs : List Value} {cs : Array Value} {E : TypeId} {N' H' : Hp} (ho : ops[i]? = some ⟨none, .store T p x, ty, pos, af, gd⟩)
    (hg : wantG ops l ⟨none, .store T p x, ty, pos, af, gd⟩ = some true) (hs : (P.info? T).map (·.size) = some m) (hp : Ev n l true p (.pointer (some ⟨b, j, none⟩))) (hx : Ev n l true x (.agg vs.toArray)) (hone : (vs.all fun v => v.oneCell') = true) (hj : Nat.ble (j + m) cs.size = true) (hj2 : vs.length = m)
    (hu : Up N H (.blk b (.cells cs E (0, 0))) (.blk b (.cells (setFrom cs j vs) E (0, 0))) N' H')
    (h : Cl w0 S N' H' C ∧ At w0 n S l N' H' (wpSch P ops C K r)) : At w0 n S l N H (wpSch P ops C K ((false, i) :: r)) :=
  At.eW (d := none) ho hg fun a w ha hw => by
    have hj1 : j + m ≤ cs.size := by simpa using hj
    have hm : Ent.blk b (.cells cs E (0, 0)) ∈ N ++ H := by cases hu with | n hl => exact List.mem_append_left _ hl.mem | h hl => exact List.mem_append_right _ hl.mem
    obtain ⟨w', h2, h3, h4, h5, h6, h7, h8⟩ := run_storeCells P vs 0 j w cs (hw.has _ hm) (by omega) (fun v hv => by simpa using (List.all_eq_true.1 hone v hv))
    have hv : (Value.agg vs.toArray).cells = vs.toArray := rfl
    have hrun : (execOp a.eval ⟨none, .store T p x, ty, pos, af, gd⟩).run P w = .ok .skip w' := by
      simp [execOp, hp rfl a ha, hx rfl a ha, Instr.storeAt, Instr.sureAddr, storeVar, run_sizeOf hs, hv, hj2, h2]
    unfold Oper.wp
    rw [hrun, Oper.upon_skip]
    have := hw.upd hu rfl (show w'.heap[b]? = _ from h3) h4 h5 h6 (by omega) fun k _ hk => h8 k fun e => hk (by rw [e]; rfl)
    exact ⟨h.1 _ this, h.2 _ _ ha this⟩
end
theorem wf_bd_u8 {n : Int} (h : (Lit.int .u8 n).wf = true) : 0 ≤ n ∧ n ≤ 255 := by simp [Lit.wf, IntKind.min, IntKind.max, IntKind.signed, IntKind.bits] at h; omega
end Go.Proofs.YtbolanigdkgbdaaGreat
namespace Go.Proofs.YtbolanigdkgbdaaGreat
open Go Go.RowKit
set_option linter.unusedSectionVars false
variable [Df]
theorem look_sub {l' : Fr} : ∀ {l : Fr}, (∀ p ∈ l, look l' p.1 = some p.2) → ∀ t v, look l t = some v → look l' t = some v
  | [], _, t, v, h => by cases h
  | (k, x) :: l, hp, t, v, h => by
    simp only [look] at h
    split at h
    · rename_i e; subst e; injection h with h; subst h; exact hp _ List.mem_cons_self
    · exact look_sub (fun p hq => hp p (List.mem_cons_of_mem _ hq)) t v h
inductive Sub (l' : Fr) : Fr → Prop
  | nil : Sub l' []
  | cons {k : Nat} {x : Bool × Value} {l : Fr} : look l' k = some x → Sub l' l → Sub l' ((k, x) :: l)
theorem Sub.look {l' l : Fr} (h : Sub l' l) : ∀ t v, Go.Proofs.YtbolanigdkgbdaaGreat.look l t = some v → Go.Proofs.YtbolanigdkgbdaaGreat.look l' t = some v := by
  refine look_sub ?_
  induction h with
  | nil => intro p hp; cases hp
  | cons h1 _ ih =>
    intro p hp
    rcases List.mem_cons.1 hp with rfl | hp
    · exact h1
    · exact ih p hp
section
variable {P : Program} {w0 : World} {n : Nat} {S N H : Hp} {l : Fr} {Q : Exit → Act → World → Prop}
def Again (w0 : World) (n : Nat) (S : Hp) {ι : Type} (I : ι → Prop) (μ : ι → Nat) (L : ι → Fr) (NN HH : ι → Hp) (i : ι) : Act → World → Prop :=
  fun a w => ∃ j, I j ∧ μ j < μ i ∧ Fk n (L j) a ∧ St w0 w S (NN j) (HH j)
theorem At.loop {ι : Type} {c : Code} (I : ι → Prop) (μ : ι → Nat) (L : ι → Fr) (NN HH : ι → Hp) (i0 : ι) (hI : I i0) (hl : Sub l (L i0)) (hN : (NN i0).Sublist N) (hH : HH i0 = H)
    (round : ∀ i, I i → At w0 n S (L i) (NN i) (HH i) (c.wp P (Exit.then (Again w0 n S I μ L NN HH i) Q))) : At w0 n S l N H ((Code.loop c).wp P Q) := fun a w ha hw => by
  subst hH
  refine wp_loop_ghost (fun m a w => ∃ i, I i ∧ μ i = m ∧ Fk n (L i) a ∧ St w0 w S (NN i) (HH i)) (μ i0) ⟨i0, hI, rfl, ha.weak hl.look, hw.forget hN⟩ ?_
  rintro m a w ⟨i, hi, rfl, ha, hw⟩
  refine Code.wp_mono ?_ (round i hi a w ha hw)
  rintro e a' w' h
  cases e with
  | normal => obtain ⟨j, hI, hj, h1, h2⟩ := h; exact ⟨μ j, hj, j, hI, rfl, h1, h2⟩
  | _ => exact h
theorem At.again {ι : Type} {I : ι → Prop} {μ : ι → Nat} {L : ι → Fr} {NN HH : ι → Hp} {i : ι} (j : ι) (hI : I j) (hμ : μ j < μ i) (hl : Sub l (L j)) (hN : (NN j).Sublist N) (hH : HH j = H) : At w0 n S l N H (Again w0 n S I μ L NN HH i) := fun a w ha hw => by
  subst hH
  exact ⟨j, hI, hμ, ha.weak hl.look, hw.forget hN⟩
end
def RdIn (C : World → Prop) (v : Value) (sz m : Nat) (xs : List Value) : Prop := ∀ w, C w → RdIs w v sz m xs
theorem RdIn.rd {C : World → Prop} {v : Value} {sz m : Nat} {xs : List Value} (h : Holds C (.rd v sz m xs)) : RdIn C v sz m xs := h
theorem rdIs_row {w : World} {v : Value} {E sz m : Nat} {xs : List Value} (h : w.ownsRow 0 E sz v m xs) : RdIs w v sz m xs := by
  obtain ⟨hl, ⟨rfl, rfl⟩ | ⟨g, cap, cur, rfl, hb, hg, h1, h2, h3, h4⟩⟩ := h
  · exact ⟨none, 0, rfl, Nat.le_refl _, Nat.zero_le _, hl, fun h => absurd h (Nat.lt_irrefl _)⟩
  · refine ⟨some ⟨g, 0, none⟩, cap, rfl, h1, h2, hl, fun _ => ⟨g, 0, rfl, ?_, fun j u hu => ?_⟩⟩
    · rcases Nat.lt_or_ge g w.heap.size with h' | h'
      · exact h'
      · rw [Array.getElem?_eq_none h'] at hg; cases hg
    · refine cell_of_blk hg ?_
      rw [← h4, List.getElem?_take] at hu
      split at hu
      · simpa using hu
      · cases hu
theorem RdIn.row {C : World → Prop} {v : Value} {E sz m : Nat} {xs : List Value} (h : Holds C (.row v E sz m xs)) : RdIn C v sz m xs := fun w hw => rdIs_row (h w hw)
theorem RdIn.nil {C : World → Prop} {sz : Nat} : RdIn C (.slice none 0 0) sz 0 [] := fun _ _ => ⟨none, 0, rfl, Nat.le_refl _, Nat.zero_le _, by simp, fun h => absurd h (Nat.lt_irrefl _)⟩
def elemPtr (v : Value) (k : Nat) : Value := match v with
  | .slice (some a) _ _ => .pointer (some (a.add k))
  | _ => undef
def cutV (v : Value) (sz lo hi : Nat) : Value := match v with
  | .slice A _ cap => .slice (if cap = lo then A else A.map (·.add (lo * sz))) (hi - lo) (cap - lo)
  | v => v
theorem RdIn.cut {C : World → Prop} {v : Value} {sz m : Nat} {xs : List Value} (h : RdIn C v sz m xs) (lo hi : Nat) (h1 : lo ≤ hi) (h2 : hi ≤ m) : RdIn C (cutV v sz lo hi) sz (hi - lo) ((xs.drop (lo * sz)).take ((hi - lo) * sz)) := fun w hw => by
  obtain ⟨A, cap, rfl, h3, h4, h5, h6⟩ := h w hw
  refine ⟨_, cap - lo, rfl, by omega, by omega, ?_, fun hn => ?_⟩
  · rw [List.length_take, List.length_drop, h5, ← Nat.sub_mul]
    exact Nat.min_eq_left (Nat.mul_le_mul_right _ (by omega))
  · obtain ⟨b, o, rfl, hb, hc⟩ := h6 (by omega)
    have hne : ¬ cap = lo := by omega
    simp only [hne, if_false, Option.map_some, add_addr]
    refine ⟨b, o + lo * sz, rfl, hb, fun j u hu => ?_⟩
    rw [List.getElem?_take] at hu
    split at hu
    · rw [List.getElem?_drop] at hu
      rw [← hc _ u hu]; congr 2; omega
    · cases hu
section
variable {P : Program} {n : Nat} {l : Fr} {C : World → Prop} {d : Option Tmp} {ty : TypeId} {pos : String} {af : Array Edge} {gd : Option (Nat × Bool)} {g : Bool}
theorem R.lenRd {x : Operand} {T : TypeId} {E sz m : Nat} {v : Value} {xs : List Value} (hT : P.underlying T = some (.slice E)) (hx : Ev n l g x v) (hr : RdIn C v sz m xs) :
    RunsC P n l C g ⟨d, .call { callee := .builtin .len, args := #[x], argTypes := #[T] }, ty, pos, af, gd⟩ (.int .i64 m) := fun hg a w ha hw => by
  obtain ⟨A, cap, rfl, _⟩ := hr w hw
  exact R.lenSl hT hx hg a w ha hw
theorem R.indexRd {x y : Operand} {T E sz m : Nat} {k : IntKind} {j : Int} {v : Value} {xs : List Value} (hT : P.underlying T = some (.slice E)) (hs : (P.info? E).map (·.size) = some sz) (hx : Ev n l g x v) (hr : RdIn C v sz m xs) (hy : Ev n l g y (.int k j))
    (hj : g = true → 0 ≤ j ∧ j < m) : RunsC P n l C g ⟨d, .indexAddr T x y, ty, pos, af, gd⟩ (elemPtr v (j.toNat * sz)) := fun hg a w ha hw => by
  obtain ⟨A, cap, rfl, h1, h2, h3, h4⟩ := hr w hw
  obtain ⟨h5, h6⟩ := hj hg
  obtain ⟨b, o, rfl, hb, hc⟩ := h4 (by omega)
  have := R.indexSl (P := P) (C := C) (d := d) (ty := ty) (pos := pos) (af := af) (gd := gd) hT hs hx hy (fun _ => ⟨h5, h6⟩) hg a w ha hw
  simpa [elemPtr, add_addr] using this
theorem R.fieldRd {x : Operand} {s f off sz m k : Nat} {v : Value} {xs : List Value} (hf : fieldOff? P s f = some off) (hx : Ev n l g x (elemPtr v k)) (hr : RdIn C v sz m xs) (hm : g = true → 0 < m) :
    RunsC P n l C g ⟨d, .fieldAddr s x f, ty, pos, af, gd⟩ (elemPtr v (k + off)) := fun hg a w ha hw => by
  obtain ⟨A, cap, rfl, h1, h2, h3, h4⟩ := hr w hw
  obtain ⟨b, o, rfl, hb, hc⟩ := h4 (hm hg)
  have hx' : Ev n l g x (.pointer (some ⟨b, o + k, none⟩)) := by simpa [elemPtr, add_addr] using hx
  have := R.fieldAddr (P := P) (C := C) (d := d) (ty := ty) (pos := pos) (af := af) (gd := gd) hf hx' hg a w ha hw
  simpa [elemPtr, add_addr, Nat.add_assoc] using this
theorem R.loadRd {x : Operand} {T : TypeId} {D : TypeDesc} {sz m k : Nat} {v u : Value} {xs : List Value} (hT : P.underlying T = some D) (hD : plainD D = true) (hx : Ev n l g x (elemPtr v k)) (hr : RdIn C v sz m xs) (hu : g = true → xs[k]? = some u) :
    RunsC P n l C g ⟨d, .load T x, ty, pos, af, gd⟩ u := fun hg a w ha hw => by
  obtain ⟨A, cap, rfl, h1, h2, h3, h4⟩ := hr w hw
  have hm : 0 < m := by
    rcases Nat.eq_zero_or_pos m with h0 | h0
    · subst h0
      have : xs = [] := List.eq_nil_of_length_eq_zero (by simpa using h3)
      rw [this] at hu; simp at hu; rw [hu] at hg; cases hg
    · exact h0
  obtain ⟨b, o, rfl, hb, hc⟩ := h4 hm
  have hx' : Ev n l g x (.pointer (some ⟨b, o + k, none⟩)) := by simpa [elemPtr, add_addr] using hx
  exact R.load (C := fun w' => w' = w) hT hD hx' (fun w' e => by subst e; exact hc k u (hu hg)) hg a w ha rfl
theorem R.loadRdAgg {x : Operand} {T : TypeId} {D : TypeDesc} {sz m k : Nat} {v : Value} {us xs : List Value} (hT : P.underlying T = some D) (hD : plainD D = false) (hs : (P.info? T).map (·.size) = some us.length) (hx : Ev n l g x (elemPtr v k)) (hr : RdIn C v sz m xs) (hm : g = true → 0 < m)
    (hu : g = true → ∀ j u, us[j]? = some u → xs[k + j]? = some u) : RunsC P n l C g ⟨d, .load T x, ty, pos, af, gd⟩ (.agg us.toArray) := fun hg a w ha hw => by
  obtain ⟨A, cap, rfl, h1, h2, h3, h4⟩ := hr w hw
  obtain ⟨b, o, rfl, hb, hc⟩ := h4 (hm hg)
  have hx' : Ev n l g x (.pointer (some ⟨b, o + k, none⟩)) := by simpa [elemPtr, add_addr] using hx
  exact R.loadAgg (C := fun w' => w' = w) hT hD hs hx' (fun w' e j u hju => by subst e; rw [← hc (k + j) u (hu hg j u hju)]; congr 2; omega) hg a w ha rfl
end
theorem St.swapN {w0 w w' : World} {S N H N' : Hp} {e e' : Ent} (h : St w0 w S N H) (hu : UpL N e e' N') (hk : ∀ k, e'.key = some k → e.key = some k ∨ w.heap.size ≤ k) (he' : e'.holds w')
    (hos : w'.os = w.os) (htape : w'.tape = w.tape) (hout : w'.output = w.output) (hsz : w.heap.size ≤ w'.heap.size)
    (hoth : ∀ k, k < w.heap.size → some k ≠ e.key → w'.heap[k]? = w.heap[k]?) : St w0 w' S N' H := by
  obtain ⟨a, b, rfl, rfl⟩ := hu.form
  have hlt := keys_lt h.has
  have hm : e ∈ a ++ e :: b ++ H := by simp
  have hsplit : ∀ x : Ent, (keys (a ++ x :: b ++ H)).Perm (x.key.toList ++ keys (a ++ b ++ H)) := fun x => by
    simp only [keys_append]
    cases hx : x.key with
    | none => simp [keys, hx]
    | some k =>
      simp only [keys, List.filterMap_cons, hx, Option.toList_some, List.singleton_append, List.append_assoc]
      exact (List.perm_middle).trans (by simp)
  have hrest : ∀ k ∈ keys (a ++ b ++ H), k < w.heap.size ∧ some k ≠ e.key := fun k hkm => by
    refine ⟨hlt k ((hsplit e).symm.subset (List.mem_append_right _ hkm)), fun hke => ?_⟩
    have := (hsplit e).nodup_iff.1 h.nodup
    rw [← hke] at this
    simp only [Option.toList_some, List.singleton_append] at this
    exact (List.nodup_cons.1 this).1 hkm
  have hndr : (keys (a ++ b ++ H)).Nodup := by
    have := (hsplit e).nodup_iff.1 h.nodup
    exact (List.nodup_append.1 this).2.1
  have hkeep : ∀ x ∈ a ++ b ++ H, x.holds w' := fun x hx => by
    have hxw : x.holds w := h.has x (by simp only [List.mem_append, List.mem_cons] at hx ⊢; rcases hx with (hx | hx) | hx <;> simp [hx])
    exact Ent.keep hxw hsz fun k hxk => hoth k (Ent.lt hxw hxk) (hrest k (mem_keys hx hxk)).2
  refine ⟨hos.trans h.os, htape.trans h.tape, hout.trans h.output, Nat.le_trans h.size hsz, fun x hx => ?_, fun x hx => ?_, (hsplit e').nodup_iff.2 ?_, fun k hkS hkm => ?_, fun x hx k hxk => ?_, fun c hc hn ho => ?_⟩
  · simp only [List.mem_append, List.mem_cons] at hx
    rcases hx with (hx | rfl | hx) | hx
    · exact hkeep x (by simp [hx])
    · exact he'
    · exact hkeep x (by simp [hx])
    · exact hkeep x (by simp [hx])
  · refine Ent.keep (h.hasS x hx) hsz fun k hxk => hoth k (Ent.lt (h.hasS x hx) hxk) fun hke => ?_
    exact h.apart k (mem_keys hx hxk) (mem_keys hm hke.symm)
  · refine List.nodup_append.2 ⟨by cases e'.key <;> simp, hndr, fun k hk1 k2 hk2 hkk => ?_⟩
    subst hkk
    have hk3 : e'.key = some k := by cases hx : e'.key with
      | none => rw [hx] at hk1; simp at hk1
      | some y => rw [hx] at hk1; simp at hk1; rw [hk1]
    have h1 := hrest k hk2
    rcases hk k hk3 with h2 | h2
    · exact h1.2 h2.symm
    · omega
  · have h1 := (hsplit e').subset hkm
    rcases List.mem_append.1 h1 with h1 | h1
    · have hk3 : e'.key = some k := by cases hx : e'.key with
        | none => rw [hx] at h1; simp at h1
        | some y => rw [hx] at h1; simp at h1; rw [h1]
      rcases hk k hk3 with h2 | h2
      · exact h.apart k hkS (mem_keys hm h2)
      · have := keys_lt h.hasS k hkS; omega
    · exact h.apart k hkS ((hsplit e).symm.subset (List.mem_append_right _ h1))
  · simp only [List.mem_append, List.mem_cons] at hx
    rcases hx with hx | rfl | hx
    · exact h.fresh x (by simp [hx]) k hxk
    · rcases hk k hxk with h2 | h2
      · exact h.fresh e (by simp) k h2
      · exact .inl (Nat.le_trans h.size h2)
    · exact h.fresh x (by simp [hx]) k hxk
  · rw [← h.old c hc hn ho]
    refine hoth c (Nat.lt_of_lt_of_le hc h.size) fun hke => ?_
    rcases h.fresh e (by simp) c hke.symm with h1 | h1
    · omega
    · exact ho h1
theorem St.addN {w0 w w' : World} {S N H : Hp} {e' : Ent} (h : St w0 w S N H) (hk : ∀ k, e'.key = some k → w.heap.size ≤ k) (he' : e'.holds w')
    (hos : w'.os = w.os) (htape : w'.tape = w.tape) (hout : w'.output = w.output) (hsz : w.heap.size ≤ w'.heap.size)
    (hoth : ∀ k, k < w.heap.size → w'.heap[k]? = w.heap[k]?) : St w0 w' S (e' :: N) H := by
  have hst : @St noDf w w' [] [e'] [] := by
    refine ⟨hos, htape, hout, hsz, by simpa using he', by simp, ?_, by simp [keys], fun x hx k hxk => .inl (hk k (by simp at hx; subst hx; exact hxk)), fun b hb _ _ => hoth b hb⟩
    cases hx : e'.key <;> simp [keys, hx]
  exact h.pure hst
theorem run_append_rd {P : Program} {w : World} {t ty e : TypeId} {sz bytes : Nat} {i : TypeInfo} {z : Value} (ht : P.underlying t = some (.slice e)) (hi : P.info? e = some i) (hz : i.zero = some z)
    (hsize : i.size = sz) (hby : i.bytes = bytes) (hzs : z.cells.size = sz) (hsz : 0 < sz) {v u : Value} {m k : Nat} {xs news : List Value} (hown : w.ownsRow 0 e sz v m xs) (hr : RdIs w u sz k news) (h1 : ∀ x ∈ news, x.oneCell' = true)
    (h63 : m + k ≤ maxLen) (hbytes : (m + k) * bytes ≤ 140737488355328) :
    ∃ v' w', (Builtin.append_ #[t, t] ty #[v, u]).run P w = .ok v' w' ∧ w'.ownsRow 0 e sz v' (m + k) (xs ++ news) ∧ w.grownBy w' v.ownBlock ∧ (∀ b, v'.ownBlock = some b → v.ownBlock = some b ∨ w.heap.size ≤ b) := by
  obtain ⟨A, cap, rfl, h2, h3, h4, h5⟩ := hr
  cases A with
  | none =>
    have hk : k = 0 := by
      rcases Nat.eq_zero_or_pos k with h0 | h0
      · exact h0
      · obtain ⟨b, o, hA, _⟩ := h5 h0; cases hA
    subst hk
    have hn : news = [] := List.eq_nil_of_length_eq_zero (by simpa using h4)
    subst hn
    refine ⟨v, w, ?_, by simpa using hown, World.grownBy.refl w _, fun b hb => .inl hb⟩
    rcases hown.2 with ⟨rfl, rfl⟩ | ⟨g, cap', cur, rfl, _, _, hnc, _⟩
    · simp [Builtin.append_, run_underlying ht, sizeOf, typeInfo, hi, Builtin.lenOf, Builtin.firstCells]
    · simp [Builtin.append_, run_underlying ht, sizeOf, typeInfo, hi, Builtin.lenOf, Builtin.firstCells, hnc, storeCells]
  | some ad =>
    have hcells : ∀ j x, news[j]? = some x → w.cell? (ad.add j) = some x := fun j x hx => by
      rcases Nat.eq_zero_or_pos k with h0 | h0
      · subst h0
        have hn : news = [] := List.eq_nil_of_length_eq_zero (by simpa using h4)
        subst hn; simp at hx
      · obtain ⟨b, o, hA, _, hc⟩ := h5 h0
        injection hA with hA; subst hA
        rw [add_addr]; exact hc j x hx
    obtain ⟨v', w', hrun, ho, hg, _, hb⟩ := run_append_own_at (P := P) w 0 t ty e i z sz bytes ht hi hz hsize hby hzs hsz v m xs hown ad k cap news h4 hcells h1 h63 hbytes (Nat.zero_le _)
    refine ⟨v', w', hrun, ho, hg, fun b hvb => ?_⟩
    rcases hb with hb | hb
    · exact .inl (hb ▸ hvb)
    · rw [hb] at hvb; injection hvb with hvb; exact .inr (by omega)
def elemTab (P : Program) (e : TypeId) : Option (Nat × Nat) :=
  match P.info? e with
  | some i => match i.zero with
    | some z => if z.cells.size = i.size ∧ 0 < i.size then some (i.size, i.bytes) else none
    | none => none
  | none => none
theorem elemTab_info {P : Program} {e : TypeId} {sz bytes : Nat} (h : elemTab P e = some (sz, bytes)) : ∃ i z, P.info? e = some i ∧ i.zero = some z ∧ i.size = sz ∧ i.bytes = bytes ∧ z.cells.size = sz ∧ 0 < sz := by
  unfold elemTab at h
  split at h
  · rename_i i hi
    split at h
    · rename_i z hz
      split at h
      · rename_i hc
        simp only [Option.some.injEq, Prod.mk.injEq] at h
        exact ⟨i, z, hi, hz, h.1, h.2, by omega, by omega⟩
      · cases h
    · cases h
  · cases h
section
variable {P : Program} {w0 : World} {n : Nat} {S N H : Hp} {l : Fr} {ops : Array Oper} {C : World → Prop} {K : Act → World → Prop} {r : List (Bool × Nat)} {i : Nat}
theorem At.append {d : Nat} {x y : Operand} {t ty : TypeId} {pos : String} {af : Array Edge} {gd : Option (Nat × Bool)} {e sz bytes m k : Nat} {v u : Value} {xs news : List Value}
    (ho : ops[i]? = some ⟨some d, .call { callee := .builtin .append, args := #[x, y], argTypes := #[t, t] }, ty, pos, af, gd⟩) (hdn : Nat.blt d n = true)
    (hg : wantG ops l ⟨some d, .call { callee := .builtin .append, args := #[x, y], argTypes := #[t, t] }, ty, pos, af, gd⟩ = some true)
    (ht : P.underlying t = some (.slice e)) (he : elemTab P e = some (sz, bytes)) (hx : Ev n l true x v) (hy : Ev n l true y u) (hr : RdIn (fun w => St w0 w S N H) u sz k news) (h1 : ∀ x ∈ news, x.oneCell' = true)
    (hb : (m + k) * bytes ≤ 140737488355328 ∧ m + k ≤ 140737488355328) {N' : Value → Hp} (hu : ∀ v', UpL N (.row v e sz m xs) (.row v' e sz (m + k) (xs ++ news)) (N' v'))
    (h : ∀ v', Cl w0 S (N' v') H C ∧ At w0 n S ((d, true, v') :: l) (N' v') H (wpSch P ops C K r)) : At w0 n S l N H (wpSch P ops C K ((false, i) :: r)) :=
  At.eW (d := some d) ho hg fun a w ha hw => by
    obtain ⟨inf, z, h2, h3, h4, h5, h6, h7⟩ := elemTab_info he
    have hown : w.ownsRow 0 e sz v m xs := hw.has _ (List.mem_append_left _ (hu v).mem)
    obtain ⟨v', w', hrun, ho', hgr, hkey⟩ := run_append_rd (P := P) (ty := ty) ht h2 h3 h4 h5 h6 h7 hown (hr w hw) h1 (by simp only [maxLen]; omega) hb.1
    unfold Oper.wp
    have hrun' : (execOp a.eval ⟨some d, .call { callee := .builtin .append, args := #[x, y], argTypes := #[t, t] }, ty, pos, af, gd⟩).run P w = .ok (.value v') w' := by
      simp [execOp, resolve, invoke, builtin, hx rfl a ha, hy rfl a ha, hrun]
    rw [hrun', Oper.upon_value]
    have := hw.swapN (hu v') (fun b hb' => hkey b hb') (show (Ent.row v' e sz (m + k) (xs ++ news)).holds w' from ho') hgr.os hgr.tape hgr.output hgr.size (fun b hb' hne => hgr.block b hb' hne)
    exact ⟨(h v').1 _ this, (h v').2 _ _ (ha.put (by simpa using hdn) rfl) this⟩
theorem R.sliceRd {g : Bool} {d : Option Tmp} {x : Operand} {T ty : TypeId} {pos : String} {af : Array Edge} {gd : Option (Nat × Bool)} {e sz m lo hi : Nat} {v : Value} {xs : List Value} {ol oh : Option Operand} (hT : P.underlying T = some (.slice e)) (hs : (P.info? e).map (·.size) = some sz)
    (hx : Ev n l g x v) (hr : RdIn C v sz m xs) (hl : match ol with | none => lo = 0 | some o => Ev n l g o (.int .i64 lo)) (hh : match oh with | none => hi = m | some o => Ev n l g o (.int .i64 hi)) (hb : g = true → lo ≤ hi ∧ hi ≤ m) :
    RunsC P n l C g ⟨d, .slice T x ol oh none, ty, pos, af, gd⟩ (cutV v sz lo hi) := fun hg a w ha hw => by
  obtain ⟨A, cap, rfl, h1, h2, h3, h4⟩ := hr w hw
  obtain ⟨h5, h6⟩ := hb hg
  have e2 : hi ≤ cap := by omega
  cases ol with
  | none =>
    cases oh with
    | none => simp only at hl hh; subst hl hh; simp [execOp, hx.eq hg ha, Instr.sliceAt, Instr.slice, run_underlying hT, Instr.sliceBounds, run_sizeOf hs, cutV]
    | some o => simp only at hl hh; subst hl; simp [execOp, hx.eq hg ha, hh.eq hg ha, Instr.sliceAt, Instr.slice, run_underlying hT, Instr.sliceBounds, Instr.sliceBound, asIntOf, run_sizeOf hs, cutV, e2]
  | some o =>
    cases oh with
    | none => simp only at hl hh; subst hh; simp [execOp, hx.eq hg ha, hl.eq hg ha, Instr.sliceAt, Instr.slice, run_underlying hT, Instr.sliceBounds, Instr.sliceBound, asIntOf, run_sizeOf hs, cutV, h5]
    | some o' => simp only at hl hh; simp [execOp, hx.eq hg ha, hl.eq hg ha, hh.eq hg ha, Instr.sliceAt, Instr.slice, run_underlying hT, Instr.sliceBounds, Instr.sliceBound, asIntOf, run_sizeOf hs, cutV, h5, e2]
end
end Go.Proofs.YtbolanigdkgbdaaGreat
