/- The verifier's own engine, eighth part: rows of rows that the call owns. -/
import Derived.Test.YtimclnhklaldfaaEngG
namespace Go.Proofs.Ytimclnhklaldfaa
open Go Go.RowKit
set_option linter.unusedSectionVars false
variable [Df]
set_option linter.unusedVariables false
/-- The order of the new entries is of no account. -/
theorem St.perm {w0 w : World} {S N N' H : Hp} (h : St w0 w S N H) (hp : N.Perm N') : St w0 w S N' H := by
  have h1 : (N ++ H).Perm (N' ++ H) := hp.append_right H
  have hk : (keys (N ++ H)).Perm (keys (N' ++ H)) := h1.filterMap _
  exact ⟨h.os, h.tape, h.output, h.size, fun e he => h.has e (h1.mem_iff.2 he), h.hasS, hk.nodup_iff.1 h.nodup, fun k hkS hm => h.apart k hkS (hk.mem_iff.2 hm), fun e he => h.fresh e (hp.mem_iff.2 he), h.old⟩
theorem At.perm {w0 : World} {n : Nat} {S N N' H : Hp} {l : Fr} {X : Act → World → Prop} (hp : N.Perm N') (h : At w0 n S l N' H X) : At w0 n S l N H X := fun a w ha hw => h a w ha (hw.perm hp)
/-- Part of what is known, in another order. -/
theorem At.fewer {w0 : World} {n : Nat} {S N N1 N' H : Hp} {l : Fr} {X : Act → World → Prop} (hs : N1.Sublist N) (hp : N1.Perm N') (h : At w0 n S l N' H X) : At w0 n S l N H X := fun a w ha hw => h a w ha ((hw.forget hs).perm hp)

/-- Values of one cell. -/
abbrev SV := { v : Value // v.oneCell' = true }
instance : Inhabited SV := ⟨⟨.bool false, rfl⟩⟩
abbrev sK : Ek SV := ⟨fun x => [x.1], 1, fun _ => rfl, fun x v hv => by
  simp at hv; subst hv; exact x.2⟩
/-- A row of rows that the call owns. -/
abbrev seg {α : Type} (k : Ek α) (E : TypeId) (gs : List (SV × List α)) : Hp := gs.map fun x => rowE k E x.1.1 x.2
theorem perm_set {α : Type} : ∀ (l : List α) (i : Nat) (x : α), i < l.length → (x :: l.eraseIdx i).Perm (l.set i x)
  | [], i, x, h => absurd h (Nat.not_lt_zero _)
  | y :: l, 0, x, _ => by simp
  | y :: l, i + 1, x, h => by
    simp only [List.eraseIdx_cons_succ, List.set_cons_succ]
    exact (List.Perm.swap y x _).trans ((perm_set l i x (by simpa using h)).cons y)
/-- A new inner row takes the place of one. -/
theorem At.segSet {α : Type} {w0 : World} {n : Nat} {S R H : Hp} {l : Fr} {X : Act → World → Prop} {k : Ek α} {E : TypeId} {gs : List (SV × List α)} {i : Nat} {v : SV} {xs : List α} (hi : i < gs.length)
    (h : At w0 n S l (seg k E (gs.set i (v, xs)) ++ R) H X) : At w0 n S l (rowE k E v.1 xs :: (seg k E gs ++ R)) H X := by
  refine At.fewer (N1 := rowE k E v.1 xs :: (seg k E (gs.eraseIdx i) ++ R)) ?_ ?_ h
  · exact List.Sublist.cons_cons _ (((List.eraseIdx_sublist gs i).map _).append (List.Sublist.refl R))
  · have := ((perm_set gs i (v, xs) hi).map (fun x => rowE k E x.1.1 x.2)).append_right R
    simpa [seg] using this
theorem At.segPush {α : Type} {w0 : World} {n : Nat} {S R H : Hp} {l : Fr} {X : Act → World → Prop} {k : Ek α} {E : TypeId} {gs : List (SV × List α)} {v : SV} {xs : List α}
    (h : At w0 n S l (seg k E (gs ++ [(v, xs)]) ++ R) H X) : At w0 n S l (rowE k E v.1 xs :: (seg k E gs ++ R)) H X := by
  refine At.perm ?_ h
  have : (rowE k E v.1 xs :: seg k E gs).Perm (seg k E gs ++ [rowE k E v.1 xs]) := (List.perm_append_singleton _ _).symm
  have := this.append_right R
  simpa [seg] using this
/-- A row's value is of one cell. -/
theorem At.rowOne {w0 : World} {n : Nat} {S N H : Hp} {l : Fr} {X : Act → World → Prop} {v : Value} {E : TypeId} {sz m : Nat} {xs : List Value} (hm : Ent.row v E sz m xs ∈ S ++ (N ++ H)) (h : v.oneCell' = true → At w0 n S l N H X) : At w0 n S l N H X := fun a w ha hw => by
  have := Holds.st hm w hw
  obtain ⟨_, ⟨rfl, _⟩ | ⟨g, cap, cur, rfl, _⟩⟩ := this <;> exact h rfl a w ha hw
theorem segN {α : Type} {w0 : World} {S R H : Hp} {k : Ek α} {E : TypeId} {gs : List (SV × List α)} {j : Int} (hj : 0 ≤ j ∧ j < gs.length) :
    RdIn (fun w => St w0 w S (seg k E gs ++ R) H) (gE gs j).1.1 k.sz (gE gs j).2.length (k.all (gE gs j).2) := by
  refine wN (E := E) (List.mem_append_left _ (List.mem_append_left _ (List.mem_map.2 ⟨gE gs j, ?_, rfl⟩)))
  unfold gE
  rw [List.getD_eq_getElem?_getD, List.getElem?_eq_getElem (by omega)]
  exact List.getElem_mem _
/-- Truth values are compared. -/
theorem run_equalB {P : Program} {w : World} {T : TypeId} {a b : Bool} (hT : P.underlying T = some .bool) : (Op.equal T (.bool a) (.bool b)).run P w = .ok (a == b) w := run_equalIn_bool' (P := P) w 9999 T a b hT
theorem R.eqlB {P : Program} {n : Nat} {l : Fr} {C : World → Prop} {g : Bool} {d : Option Tmp} {x y : Operand} {T U : TypeId} {ty : TypeId} {pos : String} {af : Array Edge} {gd : Option (Nat × Bool)} {a b : Bool} (hT : P.underlying T = some .bool) (hx : Ev n l g x (.bool a)) (hy : Ev n l g y (.bool b)) :
    RunsC P n l C g ⟨d, .binOp .eql T x y U, ty, pos, af, gd⟩ (.bool (a == b)) := fun hg A w ha _ => by
  simp [execOp, hx.eq hg ha, hy.eq hg ha, eqGuard, binOp, run_equalB hT]
theorem R.neqB {P : Program} {n : Nat} {l : Fr} {C : World → Prop} {g : Bool} {d : Option Tmp} {x y : Operand} {T U : TypeId} {ty : TypeId} {pos : String} {af : Array Edge} {gd : Option (Nat × Bool)} {a b : Bool} (hT : P.underlying T = some .bool) (hx : Ev n l g x (.bool a)) (hy : Ev n l g y (.bool b)) :
    RunsC P n l C g ⟨d, .binOp .neq T x y U, ty, pos, af, gd⟩ (.bool (!(a == b))) := fun hg A w ha _ => by
  simp [execOp, hx.eq hg ha, hy.eq hg ha, eqGuard, binOp, run_equalB hT]
end Go.Proofs.Ytimclnhklaldfaa
