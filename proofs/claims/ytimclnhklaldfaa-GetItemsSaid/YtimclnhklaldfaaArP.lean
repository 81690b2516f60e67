/- Arenas: what their words are. -/
import Derived.Test.YtimclnhklaldfaaEngK
namespace Go.Proofs.Ytimclnhklaldfaa
open Go Go.RowKit
set_option linter.unusedVariables false
/-- An arena: words, accesses of each kind, the last one. -/
structure Ar where
  w : List Int
  d0 : Int
  d1 : Int
  d2 : Int
  d3 : Int
  d4 : Int
  k : Int
  at_ : Int
  old : Int
  nw : Int
  ok : Bool
abbrev arC (wv : Value) (a : Ar) : Array Value := #[wv, .int .i64 a.d0, .int .i64 a.d1, .int .i64 a.d2, .int .i64 a.d3, .int .i64 a.d4, .int .i64 a.k, .int .i64 a.at_, .int .i64 a.old, .int .i64 a.nw, .bool a.ok]
abbrev arB (b : Nat) (wv : Value) (a : Ar) : Ent := .blk b (.cells (arC wv a) 62)
abbrev arW (wv : Value) (n : Nat) (a : Ar) : Ent := .row wv 3 1 n (zK.all a.w)
abbrev arR (wv : Value) (n : Nat) (a : Ar) : Ent := .rd wv 1 n (zK.all a.w)
/-- Is a place there? -/
def Ar.hit (a : Ar) (i : Int) : Bool := decide (0 ≤ i) && decide (i < (a.w.length : Int))
theorem Ar.hit_yes {a : Ar} {i : Int} (h : a.hit i = true) : 0 ≤ i ∧ i < a.w.length := by simpa [Ar.hit] using h
theorem Ar.hit_no {a : Ar} {i : Int} (h : a.hit i = false) : ¬ (0 ≤ i ∧ i < a.w.length) := fun hc => by
  have : a.hit i = true := by simp [Ar.hit, hc.1, hc.2]
  rw [h] at this; cases this
/-- A number of small size. -/
def Ar.few (a : Ar) : Prop := (0 ≤ a.d0 ∧ a.d0 ≤ 1000000000) ∧ (0 ≤ a.d1 ∧ a.d1 ≤ 1000000000) ∧ (0 ≤ a.d2 ∧ a.d2 ≤ 1000000000) ∧ (0 ≤ a.d3 ∧ a.d3 ≤ 1000000000) ∧ (0 ≤ a.d4 ∧ a.d4 ≤ 1000000000)
/-- An access is noted. -/
def Ar.note (a : Ar) (k i old nw : Int) (ok : Bool) : Ar := ⟨a.w, a.d0, if k = 1 then a.d1 + 1 else a.d1, if k = 2 then a.d2 + 1 else a.d2, if k = 3 then a.d3 + 1 else a.d3, if k = 4 then a.d4 + 1 else a.d4, k, i, old, nw, ok⟩
def Ar.peek (a : Ar) (i : Int) : Int := if a.hit i = true then gE a.w i else 0
def Ar.poke (a : Ar) (i x : Int) : Ar := if a.hit i = true then ⟨a.w.set i.toNat x, a.d0, a.d1, a.d2, a.d3, a.d4, a.k, a.at_, a.old, a.nw, a.ok⟩ else a
/-- An access: what it makes of the word, whether it is done. -/
def Ar.acc (a : Ar) (k i : Int) (g : Int → Int) (okf : Int → Bool) : Ar :=
  if a.hit i = true then (a.poke i (g (gE a.w i))).note k i (gE a.w i) (g (gE a.w i)) (okf (gE a.w i) && decide (k = 3)) else a.note k i 0 0 false
def Ar.ran (a : Ar) (i : Int) (okf : Int → Bool) : Bool := if a.hit i = true then okf (gE a.w i) else false
theorem Ar.poke_len (a : Ar) (i x : Int) : (a.poke i x).w.length = a.w.length := by unfold Ar.poke; split <;> simp
theorem Ar.acc_len (a : Ar) (k i : Int) (g : Int → Int) (okf : Int → Bool) : (a.acc k i g okf).w.length = a.w.length := by
  unfold Ar.acc; split
  · exact Ar.poke_len _ _ _
  · rfl
theorem Rds.blks {C : World → Prop} {bks : List (Nat × Obj)} (h : ∀ x ∈ bks, Holds C (.blk x.1 x.2)) : Rds C (bks.map fun x => .blk x.1 x.2) := by
  induction bks with
  | nil => exact .nil
  | cons x bks ih => exact .blk (h x (by simp)) (ih fun y hy => h y (by simp [hy]))
theorem wordBd {wv : Value} {n : Nat} {xs : List Int} : True := trivial
end Go.Proofs.Ytimclnhklaldfaa
