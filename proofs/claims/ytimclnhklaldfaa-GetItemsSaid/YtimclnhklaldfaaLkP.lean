/- Looks through a chunk's cells: what they hold, what a step makes of it. -/
import Derived.Test.YtimclnhklaldfaaEngL
import Derived.Test.YtimclnhklaldfaaA3
namespace Go.Proofs.Ytimclnhklaldfaa
open Go Go.RowKit
set_option linter.unusedVariables false
structure Lk where
  th : Int
  cap : Int
  wd : Int
  ver : Int
  chunk : Int
  lo : Int
  hi : Int
  most : Int
  line : Int
  n : Int
  i : Int
  state : Int
  key : Int
  g : Int
  ml : List (Int × Itm)
abbrev vfT : Itm → Value := fun x => .agg #[.int .i64 x.key, .int .i64 x.ver, .int .i64 x.data]
abbrev lkC (bm : Nat) (x : Lk) : Array Value := #[.int .i64 x.th, .int .i64 x.cap, .int .i64 x.wd, .int .i64 x.ver, .int .i64 x.chunk, .int .i64 x.lo, .int .i64 x.hi, .int .i64 x.most, .int .i64 x.line, .int .i64 x.n, .int .i64 x.i, .int .i64 x.state, .int .i64 x.key, .int .i64 x.g, .map (some bm)]
abbrev lkB (b bm : Nat) (x : Lk) : Ent := .blk b (.cells (lkC bm x) 66)
abbrev lkM (bm : Nat) (x : Lk) : Ent := mapE kfZ vfT bm x.ml
/-- All numbers are of a size that can be reckoned with. -/
structure Lk.ok (x : Lk) : Prop where
  chunk : -1000000 ≤ x.chunk ∧ x.chunk ≤ 1000000
  i : -1 ≤ x.i ∧ x.i ≤ 100000
  state : -9223372036854775808 ≤ x.state ∧ x.state ≤ 9223372036854775807
def Lk.at_ (x : Lk) : Int := x.chunk + 7 + 3 * x.i
/-- To the next cell. -/
def Lk.next (x : Lk) : Lk := { x with i := x.i + 1 }
def Lk.nextL (x : Lk) : Int := if x.n ≤ x.i + 1 then 0 else 2
def Lk.best (x : Lk) : Itm := (aget x.ml x.key).getD default
/-- Is a cell with a version of no use? -/
def Lk.past (x : Lk) : Bool := decide (x.most < verW x.state) || ((aget x.ml x.key).isSome && decide (verW x.state < x.best.ver))
def Lk.seen (x : Lk) : Lk := if x.past = true then x.next else x
def Lk.seenL (x : Lk) : Int := if x.past = true then x.nextL else 7
abbrev Lk.withKey (x : Lk) (k : Int) : Lk := ⟨x.th, x.cap, x.wd, x.ver, x.chunk, x.lo, x.hi, x.most, x.line, x.n, x.i, x.state, k, x.g, x.ml⟩
abbrev Lk.withState (x : Lk) (s : Int) : Lk := ⟨x.th, x.cap, x.wd, x.ver, x.chunk, x.lo, x.hi, x.most, x.line, x.n, x.i, s, x.key, x.g, x.ml⟩
abbrev Lk.withLine (x : Lk) (s : Int) : Lk := ⟨x.th, x.cap, x.wd, x.ver, x.chunk, x.lo, x.hi, x.most, s, x.n, x.i, x.state, x.key, x.g, x.ml⟩
abbrev Lk.withN (x : Lk) (s : Int) : Lk := ⟨x.th, x.cap, x.wd, x.ver, x.chunk, x.lo, x.hi, x.most, x.line, s, x.i, x.state, x.key, x.g, x.ml⟩
abbrev Lk.withG (x : Lk) (s : Int) : Lk := ⟨x.th, x.cap, x.wd, x.ver, x.chunk, x.lo, x.hi, x.most, x.line, x.n, x.i, x.state, x.key, s, x.ml⟩
abbrev Lk.withMl (x : Lk) (m : List (Int × Itm)) : Lk := ⟨x.th, x.cap, x.wd, x.ver, x.chunk, x.lo, x.hi, x.most, x.line, x.n, x.i, x.state, x.key, x.g, m⟩
/-- A key has been read. -/
def Lk.keyed (x : Lk) (k : Int) : Lk × Int := if k < x.lo ∨ x.hi < k then ((x.withKey k).next, (x.withKey k).nextL) else if x.state = 1 then (x.withKey k, 4) else ((x.withKey k).seen, (x.withKey k).seenL)
theorem Lk.keyed_out {x : Lk} {k : Int} (h : k < x.lo ∨ x.hi < k) : x.keyed k = ((x.withKey k).next, (x.withKey k).nextL) := by unfold Lk.keyed; rw [if_pos h]
theorem Lk.keyed_seen {x : Lk} {k : Int} (h : ¬ (k < x.lo ∨ x.hi < k)) (h2 : ¬ x.state = 1) : x.keyed k = ((x.withKey k).seen, (x.withKey k).seenL) := by unfold Lk.keyed; rw [if_neg h, if_neg h2]
theorem Lk.keyed_post {x : Lk} {k : Int} (h : ¬ (k < x.lo ∨ x.hi < k)) (h2 : x.state = 1) : x.keyed k = (x.withKey k, 4) := by unfold Lk.keyed; rw [if_neg h, if_pos h2]
/-- All words are numbers of the machine. -/
def Ar.word (a : Ar) : Prop := ∀ x ∈ a.w, -9223372036854775808 ≤ x ∧ x ≤ 9223372036854775807
theorem Ar.peek_bd (a : Ar) (h : a.word) (i : Int) : -9223372036854775808 ≤ a.peek i ∧ a.peek i ≤ 9223372036854775807 := by
  unfold Ar.peek
  split
  · rename_i hh
    obtain ⟨h1, h2⟩ := Ar.hit_yes hh
    refine h _ ?_
    unfold gE
    rw [List.getD_eq_getElem?_getD, List.getElem?_eq_getElem (by omega)]
    exact List.getElem_mem _
  · omega
/-- One access. -/
def Lk.step (x : Lk) (a : Ar) : Lk × Ar :=
  if x.line = 0 then (x, a)
  else if x.line = 1 then ((x.withN (min (max (a.peek (x.chunk + 1)) 0) x.cap)).next.withLine (x.withN (min (max (a.peek (x.chunk + 1)) 0) x.cap)).nextL, a.load (x.chunk + 1))
  else if x.line = 2 then if a.peek x.at_ = 1 ∨ 3 ≤ a.peek x.at_ then ((x.withState (a.peek x.at_)).withLine 3, a.load x.at_) else ((x.withState (a.peek x.at_)).next.withLine (x.withState (a.peek x.at_)).nextL, a.load x.at_)
  else if x.line = 3 then ((x.keyed (a.peek (x.at_ + 1))).1.withLine (x.keyed (a.peek (x.at_ + 1))).2, a.load (x.at_ + 1))
  else if x.line = 4 then ((x.withG (a.peek 1)).withLine 5, a.load 1)
  else if x.line = 5 then (x.withLine 6, a.swap x.at_ 1 (min (max x.g 0) 16777212 + 3))
  else if x.line = 6 then if a.peek x.at_ < 3 then ((x.withState (a.peek x.at_)).next.withLine (x.withState (a.peek x.at_)).nextL, a.load x.at_) else ((x.withState (a.peek x.at_)).seen.withLine (x.withState (a.peek x.at_)).seenL, a.load x.at_)
  else if x.line = 7 then ((x.withMl (aput x.ml x.key ⟨x.key, verW x.state, a.peek (x.at_ + 2)⟩)).next.withLine (x.withMl (aput x.ml x.key ⟨x.key, verW x.state, a.peek (x.at_ + 2)⟩)).nextL, a.load (x.at_ + 2))
  else (x, a)
section
variable {x : Lk} {a : Ar}
theorem Lk.step0 (h : x.line = 0) : x.step a = (x, a) := by unfold Lk.step; rw [if_pos h]
theorem Lk.step1 (h : x.line = 1) : x.step a = ((x.withN (min (max (a.peek (x.chunk + 1)) 0) x.cap)).next.withLine (x.withN (min (max (a.peek (x.chunk + 1)) 0) x.cap)).nextL, a.load (x.chunk + 1)) := by unfold Lk.step; rw [if_neg (by omega), if_pos h]
theorem Lk.step2y (h : x.line = 2) (h2 : a.peek x.at_ = 1 ∨ 3 ≤ a.peek x.at_) : x.step a = ((x.withState (a.peek x.at_)).withLine 3, a.load x.at_) := by unfold Lk.step; rw [if_neg (by omega), if_neg (by omega), if_pos h, if_pos h2]
theorem Lk.step2n (h : x.line = 2) (h2 : ¬ a.peek x.at_ = 1 ∧ a.peek x.at_ < 3) : x.step a = ((x.withState (a.peek x.at_)).next.withLine (x.withState (a.peek x.at_)).nextL, a.load x.at_) := by unfold Lk.step; rw [if_neg (by omega), if_neg (by omega), if_pos h, if_neg (by omega)]
theorem Lk.step3 (h : x.line = 3) : x.step a = ((x.keyed (a.peek (x.at_ + 1))).1.withLine (x.keyed (a.peek (x.at_ + 1))).2, a.load (x.at_ + 1)) := by unfold Lk.step; rw [if_neg (by omega), if_neg (by omega), if_neg (by omega), if_pos h]
theorem Lk.step4 (h : x.line = 4) : x.step a = ((x.withG (a.peek 1)).withLine 5, a.load 1) := by unfold Lk.step; rw [if_neg (by omega), if_neg (by omega), if_neg (by omega), if_neg (by omega), if_pos h]
theorem Lk.step5 (h : x.line = 5) : x.step a = (x.withLine 6, a.swap x.at_ 1 (min (max x.g 0) 16777212 + 3)) := by unfold Lk.step; rw [if_neg (by omega), if_neg (by omega), if_neg (by omega), if_neg (by omega), if_neg (by omega), if_pos h]
theorem Lk.step6n (h : x.line = 6) (h2 : a.peek x.at_ < 3) : x.step a = ((x.withState (a.peek x.at_)).next.withLine (x.withState (a.peek x.at_)).nextL, a.load x.at_) := by unfold Lk.step; rw [if_neg (by omega), if_neg (by omega), if_neg (by omega), if_neg (by omega), if_neg (by omega), if_neg (by omega), if_pos h, if_pos h2]
theorem Lk.step6y (h : x.line = 6) (h2 : 3 ≤ a.peek x.at_) : x.step a = ((x.withState (a.peek x.at_)).seen.withLine (x.withState (a.peek x.at_)).seenL, a.load x.at_) := by unfold Lk.step; rw [if_neg (by omega), if_neg (by omega), if_neg (by omega), if_neg (by omega), if_neg (by omega), if_neg (by omega), if_pos h, if_neg (by omega)]
theorem Lk.step7 (h : x.line = 7) : x.step a = ((x.withMl (aput x.ml x.key ⟨x.key, verW x.state, a.peek (x.at_ + 2)⟩)).next.withLine (x.withMl (aput x.ml x.key ⟨x.key, verW x.state, a.peek (x.at_ + 2)⟩)).nextL, a.load (x.at_ + 2)) := by unfold Lk.step; rw [if_neg (by omega), if_neg (by omega), if_neg (by omega), if_neg (by omega), if_neg (by omega), if_neg (by omega), if_neg (by omega), if_pos h]
theorem Lk.step8 (h0 : ¬ x.line = 0) (h1 : ¬ x.line = 1) (h2 : ¬ x.line = 2) (h3 : ¬ x.line = 3) (h4 : ¬ x.line = 4) (h5 : ¬ x.line = 5) (h6 : ¬ x.line = 6) (h7 : ¬ x.line = 7) : x.step a = (x, a) := by unfold Lk.step; rw [if_neg h0, if_neg h1, if_neg h2, if_neg h3, if_neg h4, if_neg h5, if_neg h6, if_neg h7]
end
end Go.Proofs.Ytimclnhklaldfaa
