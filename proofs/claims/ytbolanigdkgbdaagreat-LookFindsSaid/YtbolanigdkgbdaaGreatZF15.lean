/- Part of the proof: lemmas for what the last file states; no condition. -/
import Derived.Test.YtbolanigdkgbdaaGreatZF14
import Derived.ChangeSlices
import Derived.Deep.Slices
import Derived.WideShapes
import Derived.Lib.SmallJoins
set_option linter.unusedSectionVars false
namespace Go.Proofs.YtbolanigdkgbdaaGreat
open Go Go.RowKit
set_option linter.unusedVariables false
def lkRun (x : Lk) (a : Ar) : Nat → Lk × Ar
  | 0 => (x, a)
  | n + 1 => (lkRun x a n).1.step (lkRun x a n).2
theorem lkRun_add (x : Lk) (a : Ar) (m : Nat) : ∀ n, lkRun x a (m + n) = lkRun (lkRun x a m).1 (lkRun x a m).2 n
  | 0 => rfl
  | n + 1 => by show (lkRun x a (m + n)).1.step (lkRun x a (m + n)).2 = _; rw [lkRun_add x a m n]; rfl
theorem lkRun_end {x : Lk} {a : Ar} {m : Nat} (h : (lkRun x a m).1.line = 0) : ∀ n, m ≤ n → lkRun x a n = lkRun x a m := fun n hn => by
  obtain ⟨d, rfl⟩ := Nat.le.dest hn
  clear hn
  induction d with
  | zero => rfl
  | succ d ih => show (lkRun x a (m + d)).1.step (lkRun x a (m + d)).2 = _; rw [ih, Lk.step0 h]
structure Lc where
  a : Ar
  c : Int
  cap : Int
  lo : Int
  hi : Int
  most : Int
namespace Lc
variable (q : Lc)
def n : Int := min (max (q.a.peek (q.c + 1)) 0) q.cap
def st (j : Int) : Int := q.a.peek (q.c + 7 + 3 * j)
def key (j : Int) : Int := q.a.peek (q.c + 7 + 3 * j + 1)
def data (j : Int) : Int := q.a.peek (q.c + 7 + 3 * j + 2)
def G : Int := min (max (q.a.peek 1) 0) 16777212 + 3
def isIn (j : Int) : Prop := q.lo ≤ q.key j ∧ q.key j ≤ q.hi
instance (j : Int) : Decidable (q.isIn j) := by unfold isIn; infer_instance
def st2 (j : Int) : Int := if q.st j = 1 ∧ q.isIn j then q.G else q.st j
def cell (j : Int) : Option Itm := if q.isIn j ∧ 3 ≤ q.st2 j then some ⟨q.key j, verW (q.st2 j), q.data j⟩ else none
def lat (k : Int) : Nat → Option Itm
  | 0 => none
  | j + 1 => match q.cell (j : Int) with
    | none => lat k j
    | some y => if y.key = k ∧ y.ver ≤ q.most ∧ (∀ b, lat k j = some b → b.ver ≤ y.ver) then some y else lat k j
end Lc
open Classical in
noncomputable def Lc.wd (q : Lc) (i : Int) (z : Int) : Int := if ∃ j : Int, 0 ≤ j ∧ j < i ∧ z = q.c + 7 + 3 * j ∧ q.st j = 1 ∧ q.isIn j then q.G else q.a.peek z
theorem Lc.wd_no {q : Lc} {i z : Int} (h : ∀ j : Int, 0 ≤ j → j < i → z ≠ q.c + 7 + 3 * j) : q.wd i z = q.a.peek z := by
  unfold Lc.wd; rw [if_neg]; rintro ⟨j, h0, h1, h2, _⟩; exact h j h0 h1 h2
theorem Lc.wd_st {q : Lc} {i j : Int} (h0 : 0 ≤ j) (hj : j < i) : q.wd i (q.c + 7 + 3 * j) = q.st2 j := by
  unfold Lc.wd Lc.st2
  by_cases h : q.st j = 1 ∧ q.isIn j
  · rw [if_pos h, if_pos ⟨j, h0, hj, rfl, h.1, h.2⟩]
  · rw [if_neg h, if_neg]
    · rfl
    · rintro ⟨j', h1, h2, h3, h4, h5⟩
      have : j' = j := by omega
      subst this; exact h ⟨h4, h5⟩
theorem Lc.wd_st' {q : Lc} {i j : Int} (hj : i ≤ j) : q.wd i (q.c + 7 + 3 * j) = q.st j := Lc.wd_no fun j' _ h h2 => by omega
theorem Lc.wd_key {q : Lc} {i j : Int} : q.wd i (q.c + 7 + 3 * j + 1) = q.key j := Lc.wd_no fun j' _ h h2 => by omega
theorem Lc.wd_data {q : Lc} {i j : Int} : q.wd i (q.c + 7 + 3 * j + 2) = q.data j := Lc.wd_no fun j' _ h h2 => by omega
theorem Lc.wd_same {q : Lc} {i : Int} (h0 : 0 ≤ i) (h : ¬ (q.st i = 1 ∧ q.isIn i)) (z : Int) : q.wd (i + 1) z = q.wd i z := by
  unfold Lc.wd
  by_cases hc : ∃ j : Int, 0 ≤ j ∧ j < i ∧ z = q.c + 7 + 3 * j ∧ q.st j = 1 ∧ q.isIn j
  · obtain ⟨j, h1, h2, h3⟩ := hc
    rw [if_pos ⟨j, h1, by omega, h3⟩, if_pos ⟨j, h1, h2, h3⟩]
  · rw [if_neg hc, if_neg]
    rintro ⟨j, h1, h2, h3, h4, h5⟩
    by_cases e : j = i
    · subst e; exact h ⟨h4, h5⟩
    · exact hc ⟨j, h1, by omega, h3, h4, h5⟩
theorem Lc.wd_put {q : Lc} {i : Int} (h0 : 0 ≤ i) (h : q.st i = 1 ∧ q.isIn i) (z : Int) : q.wd (i + 1) z = if z = q.c + 7 + 3 * i then q.G else q.wd i z := by
  by_cases e : z = q.c + 7 + 3 * i
  · rw [if_pos e, e, Lc.wd_st h0 (by omega), Lc.st2, if_pos h]
  · rw [if_neg e]
    unfold Lc.wd
    by_cases hc : ∃ j : Int, 0 ≤ j ∧ j < i ∧ z = q.c + 7 + 3 * j ∧ q.st j = 1 ∧ q.isIn j
    · obtain ⟨j, h1, h2, h3⟩ := hc
      rw [if_pos ⟨j, h1, by omega, h3⟩, if_pos ⟨j, h1, h2, h3⟩]
    · rw [if_neg hc, if_neg]
      rintro ⟨j, h1, h2, h3, h4⟩
      by_cases e2 : j = i
      · subst e2; exact e h3
      · exact hc ⟨j, h1, by omega, h3, h4⟩
structure LfI (q : Lc) (i : Nat) (x : Lk) (a : Ar) : Prop where
  chunk : x.chunk = q.c
  cap : x.cap = q.cap
  lo : x.lo = q.lo
  hi : x.hi = q.hi
  most : x.most = q.most
  n : x.n = q.n
  ix : x.i = (i : Int)
  len : a.w.length = q.a.w.length
  wd : ∀ z, a.peek z = q.wd (i : Int) z
  ml : ∃ l, MapL x.ml l
  lat : ∀ k, aget x.ml k = q.lat k i
def LfN (q : Lc) (i : Nat) (s : Lk × Ar) : Prop := LfI q i s.1 s.2 ∧ s.1.line = if q.n ≤ (i : Int) then 0 else 2
section
variable {q : Lc} {i : Nat} {x : Lk} {a : Ar}
theorem LfI.at_ (h : LfI q i x a) : x.at_ = q.c + 7 + 3 * (i : Int) := by unfold Lk.at_; rw [h.chunk, h.ix]
theorem LfI.key (h : LfI q i x a) : a.peek (x.at_ + 1) = q.key i := by rw [h.wd, h.at_, Lc.wd_key]
theorem LfI.skip {y : Lk} {a' : Ar} (h : LfI q i x a) (he : y.chunk = x.chunk ∧ y.cap = x.cap ∧ y.lo = x.lo ∧ y.hi = x.hi ∧ y.most = x.most ∧ y.n = x.n ∧ y.i = x.i ∧ y.ml = x.ml) (hl : a'.w.length = a.w.length) (hw : ∀ z, a'.peek z = q.wd ((i : Int) + 1) z)
    (hc : ∀ k, q.lat k (i + 1) = q.lat k i) : LfN q (i + 1) (y.next.withLine y.nextL, a') := by
  obtain ⟨e1, e2, e3, e4, e5, e6, e7, e8⟩ := he
  refine ⟨⟨e1.trans h.chunk, e2.trans h.cap, e3.trans h.lo, e4.trans h.hi, e5.trans h.most, e6.trans h.n, ?_, hl.trans h.len, ?_, ?_, fun k => ?_⟩, ?_⟩
  · show y.i + 1 = ((i + 1 : Nat) : Int); rw [e7, h.ix]; omega
  · intro z; rw [Int.natCast_add]; exact hw z
  · show ∃ l, MapL y.ml l; rw [e8]; exact h.ml
  · show aget y.ml k = _; rw [e8, h.lat, hc]
  · show y.nextL = _; unfold Lk.nextL; rw [e6, e7, h.n, h.ix]; rw [Int.natCast_add]; rfl
theorem Lc.lat_none {q : Lc} {i : Nat} (h : q.cell (i : Int) = none) (k : Int) : q.lat k (i + 1) = q.lat k i := by
  show (match q.cell (i : Int) with | none => q.lat k i | some y => _) = _
  rw [h]
theorem Lc.lat_some {q : Lc} {i : Nat} {y : Itm} (h : q.cell (i : Int) = some y) (k : Int) : q.lat k (i + 1) = if y.key = k ∧ y.ver ≤ q.most ∧ (∀ b, q.lat k i = some b → b.ver ≤ y.ver) then some y else q.lat k i := by
  show (match q.cell (i : Int) with | none => q.lat k i | some y => _) = _
  rw [h]
theorem LfI.seen {y : Lk} {a' : Ar} (h : LfI q i x a) (he : y.chunk = x.chunk ∧ y.cap = x.cap ∧ y.lo = x.lo ∧ y.hi = x.hi ∧ y.most = x.most ∧ y.n = x.n ∧ y.i = x.i ∧ y.ml = x.ml) (hk : y.key = q.key i) (hs : y.state = q.st2 i) (hl : a'.w.length = a.w.length) (hw : ∀ z, a'.peek z = q.wd ((i : Int) + 1) z)
    (hin : q.isIn i) (h3 : 3 ≤ q.st2 i) : LfN q (i + 1) (lkRun (y.seen.withLine y.seenL) a' 0) ∨ LfN q (i + 1) (lkRun (y.seen.withLine y.seenL) a' 1) := by
  have hcell : q.cell (i : Int) = some ⟨q.key i, verW (q.st2 i), q.data i⟩ := by unfold Lc.cell; rw [if_pos ⟨hin, h3⟩]
  have he0 := he
  obtain ⟨e1, e2, e3, e4, e5, e6, e7, e8⟩ := he
  have hlk : aget y.ml y.key = q.lat (q.key i) i := by rw [e8, hk, h.lat]
  by_cases hp : y.past = true
  · left
    show LfN q (i + 1) (y.seen.withLine y.seenL, a')
    unfold Lk.seen Lk.seenL
    rw [if_pos hp, if_pos hp]
    refine h.skip he0 hl hw fun k => ?_
    rw [Lc.lat_some hcell, if_neg]
    rintro ⟨h1, h2, h4⟩
    dsimp only at h1 h2 h4
    unfold Lk.past Lk.best at hp
    rw [hs, e5, h.most, hlk] at hp
    cases hq : q.lat (q.key i) i with
    | none => rw [hq] at hp; simp at hp; omega
    | some b =>
      rw [hq] at hp
      have := h4 b (by rw [← h1]; exact hq)
      simp at hp
      omega
  · right
    have hs7 : y.seen.withLine y.seenL = y.withLine 7 := by unfold Lk.seen Lk.seenL; rw [if_neg hp, if_neg hp]
    show LfN q (i + 1) ((y.seen.withLine y.seenL).step a')
    rw [hs7, Lk.step7 rfl]
    have hat : (y.withLine 7).at_ = q.c + 7 + 3 * (i : Int) := by show y.chunk + 7 + 3 * y.i = _; rw [e1, e7, h.chunk, h.ix]
    have hdat : a'.peek ((y.withLine 7).at_ + 2) = q.data i := by rw [hw, hat, Lc.wd_data]
    have hver : verW (y.withLine 7).state = verW (q.st2 i) := by show verW y.state = _; rw [hs]
    have hkey : (y.withLine 7).key = q.key i := hk
    rw [hdat, hver, hkey]
    have hnew : ∀ k, aget (aput y.ml (q.key i) (⟨q.key i, verW (q.st2 i), q.data i⟩ : Itm)) k = q.lat k (i + 1) := fun k => by
      rw [aget_aput, Lc.lat_some hcell]
      by_cases hkk : k = q.key i
      · subst hkk
        rw [if_pos rfl, if_pos]
        refine ⟨rfl, ?_, fun b hb => ?_⟩
        · dsimp only
          have hnp := hp
          unfold Lk.past at hnp
          simp only [hs, e5, h.most, Bool.or_eq_true, decide_eq_true_eq, not_or] at hnp
          omega
        · dsimp only
          have hnp := hp
          unfold Lk.past Lk.best at hnp
          rw [hlk, hb] at hnp
          simp only [hs, Option.isSome_some, Option.getD_some, Bool.true_and, Bool.or_eq_true, decide_eq_true_eq, not_or] at hnp
          omega
      · rw [if_neg hkk, if_neg (fun hc => hkk hc.1.symm), e8, h.lat]
    refine ⟨⟨e1.trans h.chunk, e2.trans h.cap, e3.trans h.lo, e4.trans h.hi, e5.trans h.most, e6.trans h.n, ?_, hl.trans h.len, ?_, ?_, hnew⟩, ?_⟩
    · show y.i + 1 = ((i + 1 : Nat) : Int); rw [e7, h.ix]; omega
    · intro z; rw [Int.natCast_add]; exact hw z
    · obtain ⟨l, hlm⟩ := h.ml
      have := hlm.put (⟨q.key i, verW (q.st2 i), q.data i⟩ : Itm)
      rw [← e8] at this
      exact ⟨_, this⟩
    · show (y.withLine 7).nextL = _
      show (if y.n ≤ y.i + 1 then (0 : Int) else 2) = _
      rw [e6, e7, h.n, h.ix, Int.natCast_add]; rfl
theorem lf_seen {m : Nat} (h : LfN q (i + 1) (lkRun x a m) ∨ LfN q (i + 1) (lkRun x a (m + 1))) (hm : 1 ≤ m ∧ m ≤ 5) : ∃ t, 1 ≤ t ∧ t ≤ 6 ∧ LfN q (i + 1) (lkRun x a t) := by
  rcases h with h | h
  · exact ⟨m, hm.1, by omega, h⟩
  · exact ⟨m + 1, by omega, by omega, h⟩
abbrev lf1 (x : Lk) (s : Int) : Lk := (x.withState s).withLine 3
abbrev lf2 (x : Lk) (s k : Int) : Lk := ((lf1 x s).withKey k).withLine 4
abbrev lf3 (x : Lk) (s k g : Int) : Lk := ((lf2 x s k).withG g).withLine 5
abbrev lf4 (x : Lk) (s k g : Int) : Lk := (lf3 x s k g).withLine 6
theorem LfI.cell (h : LfI q i x a) (h2 : x.line = 2) (hc : 0 ≤ q.c) : ∃ t, 1 ≤ t ∧ t ≤ 6 ∧ LfN q (i + 1) (lkRun x a t) := by
  have h0 : (0 : Int) ≤ (i : Int) := by omega
  have hat := h.at_
  have hst : a.peek x.at_ = q.st i := by rw [h.wd, hat, Lc.wd_st' (Int.le_refl _)]
  by_cases hs : q.st i = 1 ∨ 3 ≤ q.st i
  · have r1 : lkRun x a 1 = (lf1 x (q.st i), a.load x.at_) := by
      show x.step a = _; rw [Lk.step2y h2 (by rw [hst]; exact hs), hst]
    have hkey : (a.load x.at_).peek ((lf1 x (q.st i)).at_ + 1) = q.key i := h.key
    have hat1 : (lf1 x (q.st i)).at_ + 1 = x.at_ + 1 := rfl
    by_cases hin : q.isIn i
    · have hno : ¬ (q.key i < (lf1 x (q.st i)).lo ∨ (lf1 x (q.st i)).hi < q.key i) := by
        show ¬ (q.key i < x.lo ∨ x.hi < q.key i); rw [h.lo, h.hi]; unfold Lc.isIn at hin; omega
      by_cases h1 : q.st i = 1
      · -- posted: it is given its version
        have hG : q.st2 i = q.G := by unfold Lc.st2; rw [if_pos ⟨h1, hin⟩]
        have hG3 : 3 ≤ q.st2 i := by rw [hG]; unfold Lc.G; omega
        have r2 : lkRun x a 2 = (lf2 x (q.st i) (q.key i), (a.load x.at_).load (x.at_ + 1)) := by
          show (lkRun x a 1).1.step (lkRun x a 1).2 = _
          rw [r1]
          show (lf1 x (q.st i)).step (a.load x.at_) = _
          rw [Lk.step3 rfl, hkey, Lk.keyed_post hno h1]; rfl
        have hck : q.wd (i : Int) 1 = q.a.peek 1 := Lc.wd_no fun j hj _ e => by omega
        have r3 : lkRun x a 3 = (lf3 x (q.st i) (q.key i) (q.a.peek 1), ((a.load x.at_).load (x.at_ + 1)).load 1) := by
          show (lkRun x a 2).1.step (lkRun x a 2).2 = _
          rw [r2]
          show (lf2 x (q.st i) (q.key i)).step ((a.load x.at_).load (x.at_ + 1)) = _
          rw [Lk.step4 rfl]
          have : ((a.load x.at_).load (x.at_ + 1)).peek 1 = q.a.peek 1 := by show a.peek 1 = _; rw [h.wd, hck]
          rw [this]
        have r4 : lkRun x a 4 = (lf4 x (q.st i) (q.key i) (q.a.peek 1), (((a.load x.at_).load (x.at_ + 1)).load 1).swap x.at_ 1 q.G) := by
          show (lkRun x a 3).1.step (lkRun x a 3).2 = _
          rw [r3]
          show (lf3 x (q.st i) (q.key i) (q.a.peek 1)).step (((a.load x.at_).load (x.at_ + 1)).load 1) = _
          rw [Lk.step5 rfl]; rfl
        have hb3 : ∀ z, (((a.load x.at_).load (x.at_ + 1)).load 1).peek z = a.peek z := fun z => rfl
        have hhit : (((a.load x.at_).load (x.at_ + 1)).load 1).hit x.at_ = true := by
          have : (((a.load x.at_).load (x.at_ + 1)).load 1).peek x.at_ = 1 := by rw [hb3, hst, h1]
          unfold Ar.peek at this
          split at this
          · assumption
          · exact absurd this (by decide)
        have hpk : ∀ z, ((((a.load x.at_).load (x.at_ + 1)).load 1).swap x.at_ 1 q.G).peek z = q.wd ((i : Int) + 1) z := fun z => by
          rw [Ar.peek_swap, Lc.wd_put h0 ⟨h1, hin⟩, hb3, hb3, hst, ← hat, h.wd]
          by_cases e : z = x.at_
          · rw [if_pos ⟨hhit, e, h1⟩, if_pos e]
          · rw [if_neg (fun hc => e hc.2.1), if_neg e]
        have hl4 : ((((a.load x.at_).load (x.at_ + 1)).load 1).swap x.at_ 1 q.G).w.length = a.w.length := Ar.len_swap _ _ _ _
        generalize hA4 : (((a.load x.at_).load (x.at_ + 1)).load 1).swap x.at_ 1 q.G = A4 at r4 hpk hl4
        have hp6 : A4.peek (lf4 x (q.st i) (q.key i) (q.a.peek 1)).at_ = q.G := by
          show A4.peek x.at_ = _; rw [hpk, hat, Lc.wd_st h0 (by omega), hG]
        have r5 : lkRun x a 5 = (((lf4 x (q.st i) (q.key i) (q.a.peek 1)).withState q.G).seen.withLine ((lf4 x (q.st i) (q.key i) (q.a.peek 1)).withState q.G).seenL, A4.load x.at_) := by
          show (lkRun x a 4).1.step (lkRun x a 4).2 = _
          rw [r4]
          show (lf4 x (q.st i) (q.key i) (q.a.peek 1)).step A4 = _
          rw [Lk.step6y rfl (by rw [hp6]; unfold Lc.G; omega), hp6]; rfl
        have := h.seen (y := (lf4 x (q.st i) (q.key i) (q.a.peek 1)).withState q.G) (a' := A4.load x.at_) ⟨rfl, rfl, rfl, rfl, rfl, rfl, rfl, rfl⟩ rfl hG.symm hl4 hpk hin hG3
        refine lf_seen (m := 5) ?_ (by omega)
        rw [lkRun_add x a 5 1, r5]
        exact this
      · have h3 : 3 ≤ q.st i := by omega
        have hs2 : q.st2 i = q.st i := by unfold Lc.st2; rw [if_neg (fun hc => h1 hc.1)]
        have r2 : lkRun x a 2 = (((lf1 x (q.st i)).withKey (q.key i)).seen.withLine ((lf1 x (q.st i)).withKey (q.key i)).seenL, (a.load x.at_).load (x.at_ + 1)) := by
          show (lkRun x a 1).1.step (lkRun x a 1).2 = _
          rw [r1]
          show (lf1 x (q.st i)).step (a.load x.at_) = _
          rw [Lk.step3 rfl, hkey, Lk.keyed_seen hno h1]; rfl
        have := h.seen (y := (lf1 x (q.st i)).withKey (q.key i)) (a' := (a.load x.at_).load (x.at_ + 1)) ⟨rfl, rfl, rfl, rfl, rfl, rfl, rfl, rfl⟩ rfl hs2.symm rfl (fun z => by show a.peek z = _; rw [h.wd, Lc.wd_same h0 (fun hc => h1 hc.1)]) hin (by rw [hs2]; exact h3)
        refine lf_seen (m := 2) ?_ (by omega)
        rw [lkRun_add x a 2 1, r2]
        exact this
    · have hyes : q.key i < (lf1 x (q.st i)).lo ∨ (lf1 x (q.st i)).hi < q.key i := by
        show q.key i < x.lo ∨ x.hi < q.key i; rw [h.lo, h.hi]; unfold Lc.isIn at hin; omega
      refine ⟨2, by omega, by omega, ?_⟩
      have r2 : lkRun x a 2 = (((lf1 x (q.st i)).withKey (q.key i)).next.withLine ((lf1 x (q.st i)).withKey (q.key i)).nextL, (a.load x.at_).load (x.at_ + 1)) := by
        show (lkRun x a 1).1.step (lkRun x a 1).2 = _
        rw [r1]
        show (lf1 x (q.st i)).step (a.load x.at_) = _
        rw [Lk.step3 rfl, hkey, Lk.keyed_out hyes]; rfl
      rw [r2]
      exact h.skip ⟨rfl, rfl, rfl, rfl, rfl, rfl, rfl, rfl⟩ rfl (fun z => by show a.peek z = _; rw [h.wd, Lc.wd_same h0 (fun hc => hin hc.2)]) fun k => Lc.lat_none (by unfold Lc.cell; rw [if_neg (fun hc => hin hc.1)]) k
  · refine ⟨1, by omega, by omega, ?_⟩
    show LfN q (i + 1) (x.step a)
    rw [Lk.step2n h2 (by rw [hst]; omega), hst]
    have hs2 : q.st2 i = q.st i := by unfold Lc.st2; rw [if_neg (fun hc => hs (.inl hc.1))]
    exact h.skip ⟨rfl, rfl, rfl, rfl, rfl, rfl, rfl, rfl⟩ rfl (fun z => by show a.peek z = _; rw [h.wd, Lc.wd_same h0 (fun hc => hs (.inl hc.1))]) fun k => Lc.lat_none (by unfold Lc.cell; rw [if_neg (fun hc => hs (.inr (by rw [← hs2]; exact hc.2)))]) k
theorem LfN.rest {m : Nat} (hc : 0 ≤ q.c) : ∀ (d : Nat) {i : Nat} {x : Lk} {a : Ar}, LfN q i (x, a) → q.n ≤ (i : Int) + (d : Int) → (i : Int) ≤ max q.n 0 → ∃ t, t ≤ 6 * d ∧ LfN q (max q.n 0).toNat (lkRun x a t) ∧ (lkRun x a t).1.line = 0
  | 0, i, x, a, h, hd, hi => by
    have h1 := h.2
    rw [if_pos (by omega)] at h1
    have : (max q.n 0).toNat = i := by omega
    exact ⟨0, Nat.le_refl _, by rw [this]; exact h, h1⟩
  | d + 1, i, x, a, h, hd, hi => by
    by_cases he : q.n ≤ (i : Int)
    · have h1 := h.2
      rw [if_pos he] at h1
      have : (max q.n 0).toNat = i := by omega
      exact ⟨0, by omega, by rw [this]; exact h, h1⟩
    · have h1 := h.2
      rw [if_neg he] at h1
      obtain ⟨t, ht1, ht2, ht3⟩ := h.1.cell h1 hc
      obtain ⟨t2, h4, h5, h6⟩ := LfN.rest (m := m) hc d (x := (lkRun x a t).1) (a := (lkRun x a t).2) ht3 (by omega) (by omega)
      refine ⟨t + t2, by omega, ?_, ?_⟩
      · rw [lkRun_add]; exact h5
      · rw [lkRun_add]; exact h6
end
theorem lf_run (q : Lc) {th wd ver : Int} (hc : 0 ≤ q.c) (hcap : 0 ≤ q.cap ∧ q.cap ≤ 16) : ∃ t, t ≤ 1 + 6 * q.cap.toNat ∧ (lkRun ⟨th, q.cap, wd, ver, q.c, q.lo, q.hi, q.most, 1, 0, -1, 0, 0, 0, []⟩ q.a t).1.line = 0 ∧
    LfI q q.n.toNat (lkRun ⟨th, q.cap, wd, ver, q.c, q.lo, q.hi, q.most, 1, 0, -1, 0, 0, 0, []⟩ q.a t).1 (lkRun ⟨th, q.cap, wd, ver, q.c, q.lo, q.hi, q.most, 1, 0, -1, 0, 0, 0, []⟩ q.a t).2 := by
  have hn : 0 ≤ q.n ∧ q.n ≤ q.cap := by unfold Lc.n; omega
  generalize hx : (⟨th, q.cap, wd, ver, q.c, q.lo, q.hi, q.most, 1, 0, -1, 0, 0, 0, []⟩ : Lk) = x
  have r1 : lkRun x q.a 1 = ((x.withN q.n).next.withLine (x.withN q.n).nextL, q.a.load (q.c + 1)) := by
    subst hx
    show Lk.step _ _ = _; rw [Lk.step1 rfl]; rfl
  have h1 : LfN q 0 (lkRun x q.a 1) := by
    rw [r1]
    subst hx
    refine ⟨⟨rfl, rfl, rfl, rfl, rfl, rfl, rfl, rfl, fun z => ?_, ⟨[], MapL.nil⟩, fun k => by show aget [] k = none; simp [aget, aidx]⟩, rfl⟩
    show q.a.peek z = q.wd 0 z
    rw [Lc.wd_no fun j h0 h1 => by omega]
  obtain ⟨t, h2, h3, h4⟩ := LfN.rest (m := 0) hc q.n.toNat (x := (lkRun x q.a 1).1) (a := (lkRun x q.a 1).2) h1 (by omega) (by omega)
  refine ⟨1 + t, by omega, ?_, ?_⟩
  · rw [lkRun_add]; exact h4
  · rw [lkRun_add, show q.n.toNat = (max q.n 0).toNat by omega]; exact h3.1
end Go.Proofs.YtbolanigdkgbdaaGreat
namespace Go.Proofs.YtbolanigdkgbdaaGreat
open Go Go.RowKit
set_option linter.unusedVariables false
structure LkI (n m : Nat) (x : Lk) (a : Ar) : Prop where
  ch : 0 ≤ x.chunk ∧ x.chunk ≤ 1000000
  ii : -1 ≤ x.i ∧ x.i < (m : Int)
  st : -9223372036854775808 ≤ x.state ∧ x.state ≤ 9223372036854775807
  ml : x.ml.length ≤ m
  len : a.w.length = n
  word : a.word
  cnt : a.cnt (m : Int)
theorem Ar.cnt_up {m : Int} {a : Ar} (h : a.cnt m) : a.cnt (m + 1) := by
  obtain ⟨h0, h1, h2, h3, h4⟩ := h
  exact ⟨⟨h0.1, by omega⟩, ⟨h1.1, by omega⟩, ⟨h2.1, by omega⟩, ⟨h3.1, by omega⟩, ⟨h4.1, by omega⟩⟩
section
variable {n m : Nat} {x y : Lk} {a a' : Ar}
theorem LkI.ok (h : LkI n m x a) (hm : m ≤ 100000) : x.ok := ⟨by have := h.ch; omega, by have := h.ii; omega, h.st⟩
theorem LkI.few (h : LkI n m x a) (hm : m ≤ 100000) : a.few := Ar.cnt_few h.cnt (by omega)
theorem LkI.read (h : LkI n m x a) (hi : y.i = x.i ∨ y.i = x.i + 1 ∨ y.i = 0) (hc : y.chunk = x.chunk) (hs : -9223372036854775808 ≤ y.state ∧ y.state ≤ 9223372036854775807) (hl : y.ml.length ≤ m + 1) (z : Int) : LkI n (m + 1) (y, a.load z).1 (y, a.load z).2 :=
  ⟨by show 0 ≤ y.chunk ∧ y.chunk ≤ _; rw [hc]; exact h.ch, by have := h.ii; show -1 ≤ y.i ∧ y.i < _; omega, hs, hl, h.len, h.word, by rw [Int.natCast_add]; exact Ar.cnt_note h.cnt _ _ _ _ _⟩
theorem LkI.seen_i : y.seen.i = y.i ∨ y.seen.i = y.i + 1 := by unfold Lk.seen; split; exact .inr rfl; exact .inl rfl
theorem LkI.seen_c : y.seen.chunk = y.chunk ∧ y.seen.state = y.state ∧ y.seen.ml = y.ml := by unfold Lk.seen; split <;> exact ⟨rfl, rfl, rfl⟩
theorem LkI.step (h : LkI n m x a) : LkI n (m + 1) (x.step a).1 (x.step a).2 := by
  have hup : LkI n (m + 1) x a := ⟨h.ch, by have := h.ii; omega, h.st, by have := h.ml; omega, h.len, h.word, by rw [Int.natCast_add]; exact Ar.cnt_up h.cnt⟩
  have hml := h.ml
  have hm1 : x.ml.length ≤ m + 1 := by omega
  have hb := fun z => Ar.peek_bd a h.word z
  unfold Lk.step
  split
  · exact hup
  split
  · refine h.read ?_ ?_ ?_ ?_ _; exact .inr (.inl rfl); exact rfl; exact h.st; exact hm1
  split
  · split
    · refine h.read ?_ ?_ ?_ ?_ _; exact .inl rfl; exact rfl; exact hb _; exact hm1
    · refine h.read ?_ ?_ ?_ ?_ _; exact .inr (.inl rfl); exact rfl; exact hb _; exact hm1
  split
  · unfold Lk.keyed
    split
    · refine h.read ?_ ?_ ?_ ?_ _; exact .inr (.inl rfl); exact rfl; exact h.st; exact hm1
    · split
      · refine h.read ?_ ?_ ?_ ?_ _; exact .inl rfl; exact rfl; exact h.st; exact hm1
      · obtain ⟨h1, h2, h3⟩ := LkI.seen_c (y := x.withKey (a.peek (x.at_ + 1)))
        have h4 := LkI.seen_i (y := x.withKey (a.peek (x.at_ + 1)))
        refine h.read ?_ ?_ ?_ ?_ _
        · rcases h4 with e | e
          · exact .inl e
          · exact .inr (.inl e)
        · exact h1
        · show _ ≤ (x.withKey (a.peek (x.at_ + 1))).seen.state ∧ (x.withKey (a.peek (x.at_ + 1))).seen.state ≤ _; rw [h2]; exact h.st
        · show (x.withKey (a.peek (x.at_ + 1))).seen.ml.length ≤ _; rw [h3]; exact hm1
  split
  · refine h.read ?_ ?_ ?_ ?_ _; exact .inl rfl; exact rfl; exact h.st; exact hm1
  split
  · refine ⟨h.ch, by have := h.ii; show -1 ≤ x.i ∧ x.i < _; omega, h.st, hm1, (Ar.len_swap _ _ _ _).trans h.len, Ar.word_swap h.word (by omega), ?_⟩
    rw [Int.natCast_add]; exact Ar.cnt_acc h.cnt _ _ _ _
  split
  · split
    · refine h.read ?_ ?_ ?_ ?_ _; exact .inr (.inl rfl); exact rfl; exact hb _; exact hm1
    · obtain ⟨h1, h2, h3⟩ := LkI.seen_c (y := x.withState (a.peek x.at_))
      have h4 := LkI.seen_i (y := x.withState (a.peek x.at_))
      refine h.read ?_ ?_ ?_ ?_ _
      · rcases h4 with e | e
        · exact .inl e
        · exact .inr (.inl e)
      · exact h1
      · show _ ≤ (x.withState (a.peek x.at_)).seen.state ∧ (x.withState (a.peek x.at_)).seen.state ≤ _; rw [h2]; exact hb _
      · show (x.withState (a.peek x.at_)).seen.ml.length ≤ _; rw [h3]; exact hm1
  split
  · have := aput_len x.ml x.key (⟨x.key, verW x.state, a.peek (x.at_ + 2)⟩ : Itm)
    refine h.read ?_ ?_ ?_ ?_ _; exact .inr (.inl rfl); exact rfl; exact h.st; show (aput x.ml x.key _).length ≤ _; omega
  · exact hup
end
theorem lk_lt {x : Lk} {a : Ar} {t i : Nat} (h : (lkRun x a t).1.line = 0) (hi : (lkRun x a i).1.line ≠ 0) : i < t := by
  rcases Nat.lt_or_ge i t with h1 | h1
  · exact h1
  · rw [lkRun_end h i h1] at hi; exact absurd h hi
theorem lk_same {x : Lk} {a : Ar} {t i : Nat} (h : (lkRun x a t).1.line = 0) (hi : (lkRun x a i).1.line = 0) : lkRun x a i = lkRun x a t := by
  rcases Nat.le_total i t with h1 | h1
  · exact (lkRun_end hi t h1).symm
  · exact lkRun_end h i h1
abbrev lkNew (th wd ver : Int) (q : Lc) : Lk := ⟨th, q.cap, wd, ver, q.c, q.lo, q.hi, q.most, 1, 0, -1, 0, 0, 0, []⟩
theorem lkNew_I {th wd ver : Int} {q : Lc} {n m : Nat} (hc : 0 ≤ q.c ∧ q.c ≤ 1000000) (hl : q.a.w.length = n) (hw : q.a.word) (hn : q.a.cnt (m : Int)) (hm : 0 < m) : LkI n m (lkNew th wd ver q) q.a := ⟨hc, ⟨by show -1 ≤ (-1 : Int); omega, by show (-1 : Int) < m; omega⟩, ⟨by show _ ≤ (0 : Int); omega, by show (0 : Int) ≤ _; omega⟩, Nat.zero_le _, hl, hw, hn⟩
structure LkAt (q : Lc) (th wd ver : Int) (n m i : Nat) (x : Lk) (a : Ar) : Prop where
  run : lkRun (lkNew th wd ver q) q.a i = (x, a)
  I : LkI n (m + i) x a
section
variable {q : Lc} {th wd ver : Int} {n m i : Nat} {x : Lk} {a : Ar}
theorem LkAt.new (hc : 0 ≤ q.c ∧ q.c ≤ 1000000) (hl : q.a.w.length = n) (hw : q.a.word) (hn : q.a.cnt (m : Int)) (hm : 0 < m) : LkAt q th wd ver n m 0 (lkNew th wd ver q) q.a := ⟨rfl, lkNew_I hc hl hw hn hm⟩
theorem LkAt.step (h : LkAt q th wd ver n m i x a) : LkAt q th wd ver n m (i + 1) (x.step a).1 (x.step a).2 := ⟨by show (lkRun _ _ i).1.step (lkRun _ _ i).2 = _; rw [h.run], h.I.step⟩
theorem LkAt.lt (h : LkAt q th wd ver n m i x a) (hc : 0 ≤ q.c) (hcap : 0 ≤ q.cap ∧ q.cap ≤ 16) (hx : x.line ≠ 0) : (i : Int) < 1 + 6 * q.cap := by
  obtain ⟨t, h1, h2, _⟩ := lf_run q (th := th) (wd := wd) (ver := ver) hc hcap
  have := lk_lt h2 (i := i) (by show (lkRun (lkNew th wd ver q) q.a i).1.line ≠ 0; rw [h.run]; exact hx)
  omega
theorem LkAt.end_ (h : LkAt q th wd ver n m i x a) (hc : 0 ≤ q.c) (hcap : 0 ≤ q.cap ∧ q.cap ≤ 16) (hx : x.line = 0) : LfI q q.n.toNat x a := by
  obtain ⟨t, h1, h2, h3⟩ := lf_run q (th := th) (wd := wd) (ver := ver) hc hcap
  have := lk_same h2 (i := i) (by show (lkRun (lkNew th wd ver q) q.a i).1.line = 0; rw [h.run]; exact hx)
  have h4 : lkRun ⟨th, q.cap, wd, ver, q.c, q.lo, q.hi, q.most, 1, 0, -1, 0, 0, 0, []⟩ q.a t = (x, a) := by rw [← this]; exact h.run
  rw [h4] at h3
  exact h3
end
theorem mapL_same {ml ml' : List (Int × Itm)} {l l' : List Itm} (h : MapL ml l) (h' : MapL ml' l') (e : ∀ k, aget ml k = aget ml' k) : l = l' := by
  have hm : ∀ y, y ∈ l ↔ y ∈ l' := fun y => by rw [h.mem, h'.mem, e]
  exact rise_same h.rise h'.rise hm
where
  rise_same : ∀ {l l' : List Itm}, riseK l → riseK l' → (∀ y, y ∈ l ↔ y ∈ l') → l = l'
    | [], [], _, _, _ => rfl
    | [], y :: l', _, _, h => absurd ((h y).2 List.mem_cons_self) (by simp)
    | x :: l, [], _, _, h => absurd ((h x).1 List.mem_cons_self) (by simp)
    | x :: l, y :: l', h1, h2, h => by
      obtain ⟨a1, b1⟩ := List.pairwise_cons.1 h1
      obtain ⟨a2, b2⟩ := List.pairwise_cons.1 h2
      have e : x = y := by
        rcases List.mem_cons.1 ((h x).1 List.mem_cons_self) with e | e
        · exact e
        rcases List.mem_cons.1 ((h y).2 List.mem_cons_self) with e' | e'
        · exact e'.symm
        have := a1 _ e'; have := a2 _ e; omega
      subst e
      rw [rise_same b1 b2 fun z => ?_]
      constructor
      · intro hz
        rcases List.mem_cons.1 ((h z).1 (.tail _ hz)) with e | e
        · have := a1 _ hz; rw [e] at this; omega
        · exact e
      · intro hz
        rcases List.mem_cons.1 ((h z).2 (.tail _ hz)) with e | e
        · have := a2 _ hz; rw [e] at this; omega
        · exact e
theorem arZ_cnt (w : List Int) : (arZ w).cnt ((1 : Nat) : Int) := ⟨⟨Int.le_refl 0, by show (0 : Int) ≤ 1; omega⟩, ⟨Int.le_refl 0, by show (0 : Int) ≤ 1; omega⟩, ⟨Int.le_refl 0, by show (0 : Int) ≤ 1; omega⟩, ⟨Int.le_refl 0, by show (0 : Int) ≤ 1; omega⟩, ⟨Int.le_refl 0, by show (0 : Int) ≤ 1; omega⟩⟩
theorem Lc.n_ok {q : Lc} (hcap : 0 ≤ q.cap) : 0 ≤ q.n ∧ q.n ≤ q.cap := by unfold Lc.n; omega
theorem LfI.wd' {q : Lc} {x : Lk} {a : Ar} (h : LfI q q.n.toNat x a) (hcap : 0 ≤ q.cap) (z : Int) : a.peek z = q.wd q.n z := by
  have := Lc.n_ok (q := q) hcap
  have e := h.wd z
  rwa [Int.toNat_of_nonneg this.1] at e
end Go.Proofs.YtbolanigdkgbdaaGreat
namespace Go.Proofs.YtbolanigdkgbdaaGreat
open Go Go.RowKit
set_option linter.unusedVariables false
def ltI (x y : Itm) : Prop := x.key < y.key ∨ (x.key = y.key ∧ x.ver < y.ver)
def leI (x y : Itm) : Prop := x.key < y.key ∨ (x.key = y.key ∧ x.ver ≤ y.ver)
theorem lt_le {x y : Itm} (h : ltI x y) : leI x y := by unfold ltI leI at *; omega
theorem le_trans' {x y z : Itm} (h1 : leI x y) (h2 : leI y z) : leI x z := by unfold leI at *; omega
theorem gtI_iff {x y : Itm} : gtI x y = true ↔ ltI y x := by
  unfold gtI ltI; simp only [Bool.or_eq_true, Bool.and_eq_true, decide_eq_true_eq]; omega
theorem gtI_not {x y : Itm} : gtI x y = false ↔ leI x y := by
  rw [← Bool.not_eq_true, gtI_iff]; unfold ltI leI; omega
theorem posF_spec (out : List Itm) (x : Itm) : ∀ k, (∀ i, posF out x k ≤ i → i < k → ltI x (gN out i)) ∧ (0 < posF out x k → leI (gN out (posF out x k - 1)) x)
  | 0 => ⟨fun i _ h => by omega, fun h => by simp [posF] at h⟩
  | k + 1 => by
    unfold posF
    split
    · rename_i h
      obtain ⟨h1, h2⟩ := posF_spec out x k
      refine ⟨fun i hi hi' => ?_, h2⟩
      by_cases e : i = k
      · subst e; exact gtI_iff.1 h
      · exact h1 i hi (by omega)
    · rename_i h
      refine ⟨fun i hi hi' => by omega, fun _ => ?_⟩
      exact gtI_not.1 (show gtI (gN out k) x = false from Bool.eq_false_iff.2 h)
theorem insF_sorted {out : List Itm} (x : Itm) (h : out.Pairwise leI) : (insF out x).Pairwise leI := by
  have h2 := posF_le out x out.length
  obtain ⟨h1, h3⟩ := posF_spec out x out.length
  have hlow : ∀ y ∈ out.take (posF out x out.length), leI y x := fun y hy => by
    obtain ⟨i, hi, rfl⟩ := List.mem_iff_getElem.1 hy
    simp only [List.length_take] at hi
    have h4 := h3 (by omega)
    rw [gN_getElem (by omega)] at h4
    simp only [List.getElem_take]
    rcases Nat.lt_or_ge i (posF out x out.length - 1) with h5 | h5
    · exact le_trans' (List.pairwise_iff_getElem.1 h i (posF out x out.length - 1) (by omega) (by omega) h5) h4
    · have : i = posF out x out.length - 1 := by omega
      subst this; exact h4
  have hhi : ∀ y ∈ out.drop (posF out x out.length), leI x y := fun y hy => by
    obtain ⟨i, hi, rfl⟩ := List.mem_iff_getElem.1 hy
    simp only [List.length_drop] at hi
    have := h1 (posF out x out.length + i) (by omega) (by omega)
    rw [gN_getElem (by omega)] at this
    simp only [List.getElem_drop]
    exact lt_le this
  have hsplit := h
  rw [← List.take_append_drop (posF out x out.length) out] at hsplit
  obtain ⟨p1, p2, p3⟩ := List.pairwise_append.1 hsplit
  unfold insF
  refine List.pairwise_append.2 ⟨List.pairwise_append.2 ⟨p1, List.pairwise_singleton _ _, fun a ha b hb => ?_⟩, p2, fun a ha b hb => ?_⟩
  · simp only [List.mem_singleton] at hb; subst hb; exact hlow a ha
  · rcases List.mem_append.1 ha with ha | ha
    · exact p3 a ha b hb
    · simp only [List.mem_singleton] at ha; subst ha; exact hhi b hb
theorem snoc_ind {α : Type} {p : List α → Prop} (h0 : p []) (h1 : ∀ l x, p l → p (l ++ [x])) (l : List α) : p l := by
  have : ∀ l : List α, p l.reverse := fun l => by
    induction l with
    | nil => exact h0
    | cons x l ih => rw [List.reverse_cons]; exact h1 _ _ ih
  have h := this l.reverse
  rwa [List.reverse_reverse] at h
theorem keysF_mem (k : Int) (s : List Itm) : k ∈ keysF s ↔ ∃ x ∈ s, x.key = k := by
  refine snoc_ind (p := fun s => k ∈ keysF s ↔ ∃ x ∈ s, x.key = k) (by simp [keysF]) (fun s x ih => ?_) s
  have e : keysF (s ++ [x]) = keysS (keysF s) x := by unfold keysF; rw [List.foldl_append]; rfl
  rw [e]
  unfold keysS
  split
  · rw [List.mem_append, ih]
    simp only [List.mem_singleton, List.mem_append]
    constructor
    · rintro (⟨y, h1, h2⟩ | h)
      · exact ⟨y, .inl h1, h2⟩
      · exact ⟨x, .inr rfl, h.symm⟩
    · rintro ⟨y, h1 | h1, h2⟩
      · exact .inl ⟨y, h1, h2⟩
      · subst h1; exact .inr h2.symm
  · rename_i hc
    simp only [not_or, Classical.not_not, ne_eq] at hc
    have hx : x.key ∈ keysF s := by
      rw [← hc.2]
      unfold gE
      have hlt : (((keysF s).length : Int) - 1).toNat < (keysF s).length := by omega
      rw [List.getD_eq_getElem?_getD, List.getElem?_eq_getElem hlt]
      exact List.getElem_mem _
    rw [ih]
    simp only [List.mem_append, List.mem_singleton]
    constructor
    · rintro ⟨y, h1, h2⟩; exact ⟨y, .inl h1, h2⟩
    · rintro ⟨y, h1 | h1, h2⟩
      · exact ⟨y, h1, h2⟩
      · subst h1; subst h2
        exact ih.1 hx
theorem keysF_rise (s : List Itm) : s.Pairwise leI → (keysF s).Pairwise (· < ·) := by
  refine snoc_ind (p := fun s => s.Pairwise leI → (keysF s).Pairwise (· < ·)) (by simp [keysF]) (fun s x ih h => ?_) s
  have e : keysF (s ++ [x]) = keysS (keysF s) x := by unfold keysF; rw [List.foldl_append]; rfl
  obtain ⟨h1, _, h3⟩ := List.pairwise_append.1 h
  have ih := ih h1
  rw [e]
  unfold keysS
  split
  · rename_i hc
    refine List.pairwise_append.2 ⟨ih, by simp, fun k hk z hz => ?_⟩
    simp at hz; subst hz
    obtain ⟨y, hy, rfl⟩ := (keysF_mem k s).1 hk
    have hle := h3 y hy x (by simp)
    have hle' : y.key ≤ x.key := by unfold leI at hle; omega
    rcases Int.lt_or_eq_of_le hle' with hlt | he
    · exact hlt
    · exfalso
      have hpos := List.length_pos_of_mem hk
      rcases hc with hc | hc
      · omega
      · apply hc
        have hlt : (((keysF s).length : Int) - 1).toNat < (keysF s).length := by omega
        have hg : gE (keysF s) (((keysF s).length : Int) - 1) = (keysF s)[(((keysF s).length : Int) - 1).toNat] := by
          unfold gE; rw [List.getD_eq_getElem?_getD, List.getElem?_eq_getElem hlt]; rfl
        have hin : gE (keysF s) (((keysF s).length : Int) - 1) ∈ keysF s := by rw [hg]; exact List.getElem_mem _
        obtain ⟨z, hz, hzk⟩ := (keysF_mem _ s).1 hin
        have hle2 := h3 z hz x (by simp)
        have h5 : gE (keysF s) (((keysF s).length : Int) - 1) ≤ x.key := by rw [← hzk]; unfold leI at hle2; omega
        obtain ⟨i, hi, hik⟩ := List.mem_iff_getElem.1 hk
        have h6 : y.key ≤ gE (keysF s) (((keysF s).length : Int) - 1) := by
          rw [hg, ← hik]
          rcases Nat.lt_or_ge i (((keysF s).length : Int) - 1).toNat with h' | h'
          · exact Int.le_of_lt (List.pairwise_iff_getElem.1 ih i _ hi hlt h')
          · have : i = (((keysF s).length : Int) - 1).toNat := by omega
            subst this; exact Int.le_refl _
        omega
  · exact ih
theorem sortF_rise (l : List Itm) : (sortF l).Pairwise leI := by
  have : ∀ (l o : List Itm), o.Pairwise leI → (l.foldl insF o).Pairwise leI := by
    intro l
    induction l with
    | nil => intro o h; exact h
    | cons x l ih => intro o h; exact ih _ (insF_sorted x h)
  exact this l [] List.Pairwise.nil
theorem insF_mem2 {out : List Itm} {x y : Itm} (h : y = x ∨ y ∈ out) : y ∈ insF out x := by
  unfold insF
  simp only [List.mem_append, List.mem_singleton]
  rcases h with h | h
  · exact .inl (.inr h)
  · rw [← List.take_append_drop (posF out x out.length) out] at h
    rcases List.mem_append.1 h with h | h
    · exact .inl (.inl h)
    · exact .inr h
theorem sortF_mem2 {l : List Itm} {y : Itm} (h : y ∈ l) : y ∈ sortF l := by
  have : ∀ (l o : List Itm), y ∈ o ∨ y ∈ l → y ∈ l.foldl insF o := by
    intro l
    induction l with
    | nil => intro o h; exact h.elim id (fun h => nomatch h)
    | cons x l ih =>
      intro o h
      refine ih _ ?_
      rcases h with h | h
      · exact .inl (insF_mem2 (.inr h))
      · rcases List.mem_cons.1 h with h | h
        · exact .inl (insF_mem2 (.inl h))
        · exact .inr h
  exact this l [] (.inr h)
theorem keysS_mem (k : Int) (l : List Itm) : k ∈ keysF (sortF l) ↔ ∃ x ∈ l, x.key = k := by
  rw [keysF_mem]
  exact ⟨fun ⟨x, h1, h2⟩ => ⟨x, sortF_mem h1, h2⟩, fun ⟨x, h1, h2⟩ => ⟨x, sortF_mem2 h1, h2⟩⟩
theorem latF_ok {l : List Itm} {k v : Int} {y : Itm} (h : latF l k v = some y) : y ∈ l ∧ y.key = k ∧ y.ver ≤ v := by
  have : ∀ (l : List Itm) (b : Option Itm), l.foldl (fun b x => if latB b x k v then some x else b) b = some y → b = some y ∨ (y ∈ l ∧ y.key = k ∧ y.ver ≤ v) := by
    intro l
    induction l with
    | nil => intro b h; exact .inl h
    | cons x l ih =>
      intro b h
      rcases ih _ h with h1 | ⟨h1, h2⟩
      · dsimp only at h1
        split at h1
        · rename_i hx
          cases h1
          unfold latB at hx
          simp only [Bool.and_eq_true, decide_eq_true_eq] at hx
          exact .inr ⟨.head _, hx.1⟩
        · exact .inl h1
      · exact .inr ⟨.tail _ h1, h2⟩
  rcases this l none h with h | h
  · cases h
  · exact h
def Lc.all (q : Lc) (n : Nat) : List Itm := (List.range n).filterMap fun (j : Nat) => q.cell (j : Int)
theorem Lc.all_step (q : Lc) (n : Nat) : q.all (n + 1) = q.all n ++ (q.cell (n : Int)).toList := by
  unfold Lc.all
  rw [List.range_succ, List.filterMap_append]
  cases h : q.cell (n : Int) <;> simp [h]
theorem Lc.all_le (q : Lc) : ∀ n, (q.all n).length ≤ n
  | 0 => Nat.le_refl _
  | n + 1 => by
    have := Lc.all_le q n
    rw [Lc.all_step, List.length_append]
    cases q.cell (n : Int) <;> simp <;> omega
theorem Lc.lat_all (q : Lc) (k : Int) : ∀ n : Nat, latF (q.all n) k q.most = q.lat k n
  | 0 => rfl
  | n + 1 => by
    have ih := Lc.lat_all q k n
    rw [Lc.all_step]
    cases hc : q.cell (n : Int) with
    | none => rw [Lc.lat_none hc, ← ih]; simp
    | some y =>
      rw [Lc.lat_some hc, ← ih]
      have e : latF (q.all n ++ [y]) k q.most = if latB (latF (q.all n) k q.most) y k q.most then some y else latF (q.all n) k q.most := by unfold latF; rw [List.foldl_append]; rfl
      show latF (q.all n ++ [y]) k q.most = _
      rw [e]
      cases hl : latF (q.all n) k q.most with
      | none => simp [latB]
      | some b => simp [latB, and_assoc]
def latS (al : List Itm) (m : Int) (ks : List Int) : List Itm := ks.filterMap fun k => latF al k m
theorem latS_step (al : List Itm) (m : Int) {ks : List Int} {i : Nat} (h : i < ks.length) : latS al m (ks.take (i + 1)) = latS al m (ks.take i) ++ (latF al (gE ks (i : Int)) m).toList := by
  unfold latS
  have e : ks[i] = gE ks (i : Int) := by simp [gE, h]
  rw [List.take_succ_eq_append_getElem h, List.filterMap_append, e]
  cases hl : latF al (gE ks (i : Int)) m with
  | none => simp [hl]
  | some y => simp [hl]
theorem latS_le (al : List Itm) (m : Int) (ks : List Int) : (latS al m ks).length ≤ ks.length := List.length_filterMap_le _ _
theorem lf_want {q : Lc} {x : Lk} {a : Ar} {l : List Itm} (h : LfI q q.n.toNat x a) (hl : MapL x.ml l) : latS (q.all q.n.toNat) q.most (keysF (sortF (q.all q.n.toNat))) = l := by
  refine mapL_same.rise_same ?_ hl.rise fun y => ?_
  · have h1 := keysF_rise _ (sortF_rise (q.all q.n.toNat))
    unfold latS riseK
    refine List.Pairwise.filterMap _ (fun k k' hk y hy y' hy' => ?_) h1
    have e1 := (latF_ok hy).2.1; have e2 := (latF_ok hy').2.1
    omega
  · rw [hl.mem, h.lat, ← Lc.lat_all]
    unfold latS
    rw [List.mem_filterMap]
    constructor
    · rintro ⟨k, _, h2⟩
      have := (latF_ok h2).2.1
      rw [this]; exact h2
    · intro h2
      exact ⟨y.key, (keysS_mem _ _).2 ⟨y, (latF_ok h2).1, rfl⟩, h2⟩
section
variable {q : Lc} {a1 : Ar} {j : Nat}
theorem lf_st (hw : ∀ z, a1.peek z = q.wd q.n z) (hj : (j : Int) < q.n) : a1.peek (q.c + 7 + 3 * (j : Int)) = q.st2 j := by rw [hw, Lc.wd_st (by omega) hj]
theorem lf_post (hw : ∀ z, a1.peek z = q.wd q.n z) (hj : (j : Int) < q.n) (h1 : q.a.peek (q.c + 7 + 3 * (j : Int)) = 1) (h2 : q.lo ≤ q.a.peek (q.c + 7 + 3 * (j : Int) + 1)) (h3 : q.a.peek (q.c + 7 + 3 * (j : Int) + 1) ≤ q.hi) : a1.peek (q.c + 7 + 3 * (j : Int)) = min (max (q.a.peek 1) 0) 16777212 + 3 := by
  rw [lf_st hw hj]; unfold Lc.st2; rw [if_pos ⟨h1, h2, h3⟩]; rfl
theorem lf_else (hw : ∀ z, a1.peek z = q.wd q.n z) (hj : (j : Int) < q.n) (h : ¬ (q.a.peek (q.c + 7 + 3 * (j : Int)) = 1 ∧ q.lo ≤ q.a.peek (q.c + 7 + 3 * (j : Int) + 1) ∧ q.a.peek (q.c + 7 + 3 * (j : Int) + 1) ≤ q.hi)) : a1.peek (q.c + 7 + 3 * (j : Int)) = q.a.peek (q.c + 7 + 3 * (j : Int)) := by
  rw [lf_st hw hj]; unfold Lc.st2; rw [if_neg (show ¬ (q.st (j : Int) = 1 ∧ q.isIn (j : Int)) from h)]; rfl
theorem lf_allY {al : List Itm} (hw : ∀ z, a1.peek z = q.wd q.n z) (hj : (j : Int) < q.n) (ha : al = q.all j) (h : (q.lo ≤ q.a.peek (q.c + 7 + 3 * (j : Int) + 1) ∧ q.a.peek (q.c + 7 + 3 * (j : Int) + 1) ≤ q.hi) ∧ 3 ≤ a1.peek (q.c + 7 + 3 * (j : Int))) :
    al ++ [(⟨a1.peek (q.c + 7 + 3 * (j : Int) + 1), verD (a1.peek (q.c + 7 + 3 * (j : Int))), a1.peek (q.c + 7 + 3 * (j : Int) + 2)⟩ : Itm)] = q.all (j + 1) := by
  have e1 := lf_st hw hj
  have e2 : a1.peek (q.c + 7 + 3 * (j : Int) + 1) = q.key j := by rw [hw, Lc.wd_key]
  have e3 : a1.peek (q.c + 7 + 3 * (j : Int) + 2) = q.data j := by rw [hw, Lc.wd_data]
  rw [e1] at h
  rw [e1, e2, e3, Lc.all_step, ha]
  have hc : q.cell (j : Int) = some ⟨q.key j, verW (q.st2 j), q.data j⟩ := by unfold Lc.cell; rw [if_pos ⟨h.1, h.2⟩]
  rw [hc]; rfl
theorem lf_allN {al : List Itm} (hw : ∀ z, a1.peek z = q.wd q.n z) (hj : (j : Int) < q.n) (ha : al = q.all j) (h : ¬ ((q.lo ≤ q.a.peek (q.c + 7 + 3 * (j : Int) + 1) ∧ q.a.peek (q.c + 7 + 3 * (j : Int) + 1) ≤ q.hi) ∧ 3 ≤ a1.peek (q.c + 7 + 3 * (j : Int)))) : al = q.all (j + 1) := by
  rw [lf_st hw hj] at h
  rw [Lc.all_step, ha]
  have hc : q.cell (j : Int) = none := by unfold Lc.cell; rw [if_neg fun hc => h ⟨hc.1, hc.2⟩]
  rw [hc]; exact (List.append_nil _).symm
end
theorem latS_yes {al : List Itm} {m : Int} {ks : List Int} {i : Nat} {wn : List Itm} (h : i < ks.length) (hw : wn = latS al m (ks.take i)) (hs : (latF al (gE ks (i : Int)) m).isSome = true) : wn ++ [(latF al (gE ks (i : Int)) m).getD default] = latS al m (ks.take (i + 1)) := by
  rw [latS_step al m h, hw]
  cases hl : latF al (gE ks (i : Int)) m with
  | none => rw [hl] at hs; cases hs
  | some y => rfl
theorem latS_no {al : List Itm} {m : Int} {ks : List Int} {i : Nat} {wn : List Itm} (h : i < ks.length) (hw : wn = latS al m (ks.take i)) (hs : (latF al (gE ks (i : Int)) m).isSome = false) : wn = latS al m (ks.take (i + 1)) := by
  rw [latS_step al m h, hw]
  cases hl : latF al (gE ks (i : Int)) m with
  | none => exact (List.append_nil _).symm
  | some y => rw [hl] at hs; cases hs
end Go.Proofs.YtbolanigdkgbdaaGreat
namespace Go.Proofs.YtbolanigdkgbdaaGreat
open Go Go.RowKit
set_option maxRecDepth 10000
set_option linter.unusedVariables false
set_option linter.unnecessarySimpa false
set_option linter.unusedSectionVars false
set_option maxHeartbeats 1000000
theorem keysL_le {al : List Itm} {n : Nat} (h : al.length ≤ n) : (keysF (sortF al)).length ≤ n := by
  have : ∀ (l : List Itm) (o : List Int), (l.foldl keysS o).length ≤ o.length + l.length := by
    intro l
    induction l with
    | nil => intro o; exact Nat.le_refl _
    | cons x l ih =>
      intro o
      refine Nat.le_trans (ih _) ?_
      unfold keysS
      split <;> simp <;> omega
  have h1 := this (sortF al) []
  rw [sortF_length] at h1
  simp only [List.length_nil] at h1
  unfold keysF; omega
theorem c_LookFinds {th cap wd ver z lo hi most : Int} {Ov Pv dv : Value} {gs : opsRows} {ps l0 : List Int} (hz : 0 ≤ z ∧ z ≤ 255) (hlo : 0 ≤ lo ∧ lo ≤ 255) (hhi : 0 ≤ hi ∧ hi ≤ 255) (hmo : 0 ≤ most ∧ most ≤ 255) : Fn Tryz.prog 3 [.agg #[.int .i64 th, .int .i64 cap, .int .i64 wd, .int .i64 ver, Ov, Pv, dv], .int .u8 z, .int .u8 lo, .int .u8 hi, .int .u8 most] (SCr dv l0 Pv ps Ov gs) ([]) (IsV (.bool true)) := by
 refine Fn.enter Tryz.func3 (by kernel_rfl) rfl (n := 177) rfl rfl (fun w => ?_)
 have hG : ∀ y ∈ gs, rdE opK y.1 y.2 ∈ SCr dv l0 Pv ps Ov gs := fun y hy => .tail _ (.tail _ (.tail _ ((List.mem_map.2 ⟨y, hy, rfl⟩))))
 refine W ?_
 refine At.box rfl rfl rfl (.t rfl) (fun b1 hb1 => ⟨.all, ?_⟩)
 refine W ?_
 refine At.callVR rfl rfl rfl .nil .nil (fun hg => c_known11) .all ?_
 refine Z ?_
 refine cP rfl rfl rfl (.k rfl (.kc .nil)) rfl (h_Wide (th := th) (cap := cap) (wd := wd) (ver := ver) (p := 400) (Ov := Ov) (Pv := Pv) (dv := dv) (gs := gs) (ps := ps) (l0 := l0) (by decide)) (fun e he w hw => hw.hasS e (he)) (fun v N1 H1 hR => ?_); obtain ⟨⟨e, rfl, he⟩, rfl, rfl⟩ := hR; refine ⟨rfl, .all, ?_⟩
 refine W ?_
 refine At.cond (.t rfl) (fun c2 => ?_) (fun c2 => ?_)
 ·
  refine W ?_
  exact fT rfl (.t rfl) (⟨rfl, rfl, rfl⟩)
 ·
  have hno := he (by simpa using c2); have hok := hno.ok; have hth := hok.conf.h_th; have hcap := hok.conf.h_cap; have hwd := hok.conf.h_wd; have hgl := hno.gl; have hpl1 := hno.pl; have hdl := hno.dl; obtain ⟨capN, hcapN⟩ := Int.eq_ofNat_of_zero_le (a := cap) (by omega); subst hcapN; obtain ⟨wdN, hwdN⟩ := Int.eq_ofNat_of_zero_le (a := wd) (by omega); subst hwdN
  refine W ?_
  let F16 : Nat → Nat → Nat → Fr := fun bcf ba bq => [(34, true, .agg #[.int .i64 th, .int .i64 (capN : Int), .int .i64 (wdN : Int), .int .i64 ver]), (35, true, .agg #[.int .i64 th, .int .i64 (capN : Int), .int .i64 (wdN : Int), .int .i64 ver, Ov, Pv, dv]), (36, pt ba 0), (37, pt bq 0), (11, pt bcf 0), (12, pt bq 0), (1, true, .int .u8 z), (2, true, .int .u8 lo), (3, true, .int .u8 hi), (4, true, .int .u8 most), (5, pt b1 0)]
  refine At.dag [tt 0, tt 1, tt 2] 5 (mT 8 [0, 1, 2]) ((SCr dv l0 Pv ps Ov gs) ++ ([.blk b1 (.cells #[.int .i64 th, .int .i64 (capN : Int), .int .i64 (wdN : Int), .int .i64 ver, Ov, Pv, dv] 27)] ++ [])) (fun _ h => h) (by kernel_rfl) (by kernel_rfl) (fun G hnode hdone => ?_)
  have g0 : ∀ (bcf : Nat) (ba : Nat) (bq : Nat) (wv2 : Value) (r : Rr) (m : Nat) (hr : r.okk m 800000) (hm : 1 ≤ m ∧ m ≤ 20000), At w 177 (SCr dv l0 Pv ps Ov gs) (fs (F16 bcf ba bq) 2047) ([raB bq wv2 (rFr r), raW wv2 m (rFr r), .blk bcf (.cells #[.int .i64 th, .int .i64 (capN : Int), .int .i64 (wdN : Int), .int .i64 ver] 23), .blk b1 (.cells #[.int .i64 th, .int .i64 (capN : Int), .int .i64 (wdN : Int), .int .i64 ver, Ov, Pv, dv] 27)]) ([]) (G 0 (mF 8 [])) := fun bcf ba bq wv2 r m hr hm => by
   refine hdone _ _ _ (by kernel_rfl) ?_
   refine W ?_
   have hm1 := hm.1; have hm2 := hm.2
   refine W ?_
   refine cP rfl rfl rfl (.k rfl .nil) rfl (h_Arena (r := rFr r) (n := m) hr.len ⟨hm1, hm2⟩) (Rds.all (.blk (.st (by ((refine List.mem_append_right _ ?_; repeat (exact List.Mem.head _))))) (.cons (rN2 (by ((refine List.mem_append_right _ ?_; repeat (first | exact List.Mem.head _ | apply List.Mem.tail))))) .nil))) (fun v N1 H1 hR => ?_); obtain ⟨⟨bz, wa, rfl, rfl⟩, rfl⟩ := hR; refine ⟨rfl, .all, ?_⟩
   refine W ?_
   refine cP rfl rfl rfl (.k rfl (.k rfl (.k rfl .nil))) rfl (h_pick (r := rFr r) (n := m) (th := th) (cap := (capN : Int)) (wd := (wdN : Int)) (ver := ver) hr.len (by omega) (by omega) (by omega) hz) (Rds.all (.blk (.st (by ((refine List.mem_append_right _ ?_; repeat (first | exact List.Mem.head _ | apply List.Mem.tail))))) (.cons (rN2 (by ((refine List.mem_append_right _ ?_; repeat (first | exact List.Mem.head _ | apply List.Mem.tail))))) .nil))) (fun v N1 H1 hR => ?_); obtain ⟨⟨k, rfl, hk1, hk2⟩, rfl, rfl⟩ := hR; refine ⟨rfl, .all, ?_⟩
   refine W ?_
   refine eA rfl (R.remI (.t rfl) .c gO) ?_
   refine eA rfl (R.as (R.conv Tryz.underlying5 Tryz.underlying3 (.t rfl)) (fun _ => congrArg (Value.int .i64) (IntWalk.i64_in _ (by omega)))) ?_
   refine W ?_
   refine eA rfl (R.remI (.t rfl) .c gO) ?_
   refine eA rfl (R.as (R.conv Tryz.underlying5 Tryz.underlying3 (.t rfl)) (fun _ => congrArg (Value.int .i64) (IntWalk.i64_in _ (by omega)))) ?_
   refine W ?_
   have hm1 := hm.1; have hm2 := hm.2
   have hk0 : (0 : Int) ≤ k ∧ k ≤ 1000000 := ⟨hk1, hk2⟩
   have hcp : (0 : Int) ≤ (capN : Int) ∧ (capN : Int) ≤ 16 := (by omega)
   have hwz : (arZ r.w).word := Sim.word (arZ_sim r) (rFr_okk hr) (by omega)
   have hpr : ∀ z, (rFr r).peek z = (arZ r.w).peek z := fun z => ((arZ_sim r).peek z).symm
   have hnn : max 0 (min ((rFr r).peek (k + 1)) (capN : Int)) = (⟨arZ r.w, k, (capN : Int), (lo % 64), (hi % 64), (most % 40)⟩ : Lc).n := (by rw [hpr]; show _ = min (max ((arZ r.w).peek (k + 1)) 0) (capN : Int); omega)
   have hn0 := Lc.n_ok (q := (⟨arZ r.w, k, (capN : Int), (lo % 64), (hi % 64), (most % 40)⟩ : Lc)) hcp.1
   dsimp only at hn0
   refine At.drawK [tt 0, tt 1, tt 2, tt 4, tt 5, ff 3, tt 6, tt 7, tt 8] (by kernel_rfl) (by kernel_rfl) ?_
   refine W ?_
   refine At.callVR rfl rfl rfl (.k rfl (.k rfl .nil)) (.blk (.st (by ((refine List.mem_append_right _ ?_; repeat (first | exact List.Mem.head _ | apply List.Mem.tail))))) (.cons (rN2 (by ((refine List.mem_append_right _ ?_; repeat (first | exact List.Mem.head _ | apply List.Mem.tail))))) .nil)) (fun hg => r_Peek (n := m) (r := rFr r) hr.len (by omega)) (by exact Cl.keptS (List.Sublist.refl _)) ?_
   refine sJ rfl (R.min2 (.t rfl) (.t rfl)) ?_
   refine sJ rfl (R.max2 .c (.t rfl)) ?_
   refine sJ rfl (R.as (R.assign (.t rfl)) (fun _ => (congrArg (Value.int .i64) hnn))) ?_
   refine W ?_
   refine eA rfl (R.remI (.t rfl) .c gO) ?_
   refine eA rfl (R.as (R.conv Tryz.underlying5 Tryz.underlying3 (.t rfl)) (fun _ => congrArg (Value.int .i64) (IntWalk.i64_in _ (by omega)))) ?_
   refine cP rfl rfl rfl (.k rfl (.k rfl (.k rfl (.k rfl (.k rfl .nil))))) rfl (k_New (a := th) (b := (capN : Int)) (c := (wdN : Int)) (d := ver) (chunk := k)) (fun _ h => nomatch h) (fun v N1 H1 hR => ?_); obtain ⟨bl, bm, rfl, rfl, rfl⟩ := hR; refine ⟨rfl, (.all), ?_⟩
   refine W ?_
   refine At.loop3 (fun (i : Nat) (x : Lk) (a : Ar) => LkAt (⟨arZ r.w, k, (capN : Int), (lo % 64), (hi % 64), (most % 40)⟩ : Lc) th (wdN : Int) ver m 1 i x a ∧ x.line ≠ 0) (fun (i : Nat) (x : Lk) (a : Ar) => 200 - i) (fun (i : Nat) (x : Lk) (a : Ar) => [(4, true, .int .u8 most), (11, true, .pointer (some ⟨bcf, 0, none⟩)), (12, true, .pointer (some ⟨bq, 0, none⟩)), (13, true, .pointer (some ⟨bz, 0, none⟩)), (14, true, .int .i64 k), (15, true, .int .i64 (lo % 64)), (16, true, .int .i64 (hi % 64)), (17, true, .int .i64 ((⟨arZ r.w, k, (capN : Int), (lo % 64), (hi % 64), (most % 40)⟩ : Lc).n)), (18, true, .pointer (some ⟨bl, 0, none⟩)), (19, true, .int .i64 ((i : Int) + 1))]) (fun (i : Nat) (x : Lk) (a : Ar) => [lkB bl bm x, lkM bm x, arB bz wa a, arW wa m a, raB bq wv2 (rFr r), raW wv2 m (rFr r), .blk bcf (.cells #[.int .i64 th, .int .i64 (capN : Int), .int .i64 (wdN : Int), .int .i64 ver] 23)]) (fun (i : Nat) (x : Lk) (a : Ar) => []) (0) ((⟨th, (capN : Int), (wdN : Int), ver, k, (lo % 64), (hi % 64), (most % 40), 1, 0, -1, 0, 0, 0, []⟩ : Lk)) (arZ r.w) ⟨LkAt.new hk0 hr.len hwz (arZ_cnt _) (by decide), by show (1 : Int) ≠ 0; decide⟩ (.cons rfl (.cons rfl (.cons rfl (.cons rfl (.cons rfl (.cons rfl (.cons rfl (.cons rfl (.cons rfl (.cons rfl .nil)))))))))) sl rfl (fun i x a hi => ?_)
   obtain ⟨hA, hl0⟩ := hi; have hlt := hA.lt hk0.1 hcp hl0; have hxI := hA.I; have hst := hA.step; dsimp only at hlt
   refine W ?_
   refine cM rfl rfl rfl (.k rfl (.k rfl .nil)) rfl (.n (.take (.take (.take (.take .nil))))) .nil (k_Step (x := x) (a := a) (n := m)  (hxI.ok (by omega)) hxI.len (by omega) (hxI.few (by omega)) hxI.word) rfl .nil ⟨.all, ?_⟩
   refine Z ?_
   refine At.condN (.t rfl) (fun c3 => ?_) (fun c3 => ?_)
   ·
    refine W ?_
    refine eA rfl (R.as (R.gtr (.t rfl) .c) dF) ?_
    refine W ?_
    exact At.again3 (i + 1) ((x.step a).1) ((x.step a).2) ⟨hst, by simpa using c3⟩ (by omega) (.cons rfl (.cons rfl (.cons rfl (.cons rfl (.cons rfl (.cons rfl (.cons rfl (.cons rfl (.cons rfl (.cons rfl .nil)))))))))) (List.Sublist.refl _) rfl
   ·
    have hz1 : (x.step a).1.line = 0 := (by simpa using c3); generalize (x.step a).1 = x1 at *; generalize (x.step a).2 = a1 at *; have hE := hst.end_ hk0.1 hcp hz1; have hI1 := hst.I; have hw1 := hE.wd' hcp.1; obtain ⟨lx, hlx⟩ := hE.ml; have hwant := lf_want hE hlx; obtain ⟨nn, hnn2⟩ := Int.eq_ofNat_of_zero_le hn0.1; have hnt : (⟨arZ r.w, k, (capN : Int), (lo % 64), (hi % 64), (most % 40)⟩ : Lc).n.toNat = nn := (by omega); rw [hnt] at hwant
    refine W ?_
    refine At.nilRow iK 43 ?_
    refine At.loop3 (fun (j : Nat) (al : List Itm) (va : Value) => j ≤ nn ∧ al = Lc.all (⟨arZ r.w, k, (capN : Int), (lo % 64), (hi % 64), (most % 40)⟩ : Lc) j) (fun (j : Nat) (al : List Itm) (va : Value) => nn - j) (fun (j : Nat) (al : List Itm) (va : Value) => [(4, true, .int .u8 most), (11, true, .pointer (some ⟨bcf, 0, none⟩)), (12, true, .pointer (some ⟨bq, 0, none⟩)), (13, true, .pointer (some ⟨bz, 0, none⟩)), (14, true, .int .i64 k), (15, true, .int .i64 (lo % 64)), (16, true, .int .i64 (hi % 64)), (17, true, .int .i64 ((⟨arZ r.w, k, (capN : Int), (lo % 64), (hi % 64), (most % 40)⟩ : Lc).n)), (18, true, .pointer (some ⟨bl, 0, none⟩)), (19, true, .int .i64 ((i : Int) + 1)), (20, true, va), (21, true, .int .i64 j)]) (fun (j : Nat) (al : List Itm) (va : Value) => [rowE iK 43 va al, lkB bl bm x1, lkM bm x1, arB bz wa a1, arW wa m a1, raB bq wv2 (rFr r), raW wv2 m (rFr r), .blk bcf (.cells #[.int .i64 th, .int .i64 (capN : Int), .int .i64 (wdN : Int), .int .i64 ver] 23)]) (fun (j : Nat) (al : List Itm) (va : Value) => []) (0) ([]) (.slice none 0 0) ⟨Nat.zero_le _, rfl⟩ (.cons rfl (.cons rfl (.cons rfl (.cons rfl (.cons rfl (.cons rfl (.cons rfl (.cons rfl (.cons rfl (.cons rfl (.cons rfl (.cons rfl .nil)))))))))))) (List.Sublist.refl _) rfl (fun j al va hi => ?_)
    obtain ⟨hj1, hj2⟩ := hi; have hal := Lc.all_le ((⟨arZ r.w, k, (capN : Int), (lo % 64), (hi % 64), (most % 40)⟩ : Lc)) j; rw [← hj2] at hal
    refine Z ?_
    refine At.condD (.t rfl) (fun c5 => ?_) (fun c5 => ?_)
    ·
     have hjn : (j : Int) < Lc.n (⟨arZ r.w, k, (capN : Int), (lo % 64), (hi % 64), (most % 40)⟩ : Lc) := (by omega)
     refine W ?_
     refine At.callVR rfl rfl rfl (.k rfl (.k rfl .nil)) (.nil) (fun hg => q_StateAt (by omega) (by omega)) .all ?_
     refine W ?_
     refine At.callVR rfl rfl rfl (.k rfl (.k rfl .nil)) (.blk (.st (by ((refine List.mem_append_right _ ?_; repeat (first | exact List.Mem.head _ | apply List.Mem.tail))))) (.cons (rN2 (by ((refine List.mem_append_right _ ?_; repeat (first | exact List.Mem.head _ | apply List.Mem.tail))))) .nil)) (fun hg => r_Peek (n := m) (r := rFr r) hr.len (by omega)) (.all) ?_
     refine Z ?_
     refine At.callVR rfl rfl rfl (.cons (.s rfl) (.cons (.s rfl) .nil)) (.blk (.st (by ((refine List.mem_append_right _ ?_; repeat (first | exact List.Mem.head _ | apply List.Mem.tail))))) (.cons (rN2 (by ((refine List.mem_append_right _ ?_; repeat (first | exact List.Mem.head _ | apply List.Mem.tail))))) .nil)) (fun hg => r_Peek (n := m) (r := rFr r) hr.len (by omega)) (.all) ?_
     refine Z ?_
     refine At.callVR rfl rfl rfl (.k rfl (.k rfl .nil)) (.blk (.st (by ((refine List.mem_append_right _ ?_; repeat (first | exact List.Mem.head _ | apply List.Mem.tail))))) (.cons (rN2 (by ((refine List.mem_append_right _ ?_; repeat (first | exact List.Mem.head _ | apply List.Mem.tail))))) .nil)) (fun hg => r_Peek (n := m) (r := rFr r) hr.len (by omega)) (.all) ?_
     refine Z ?_
     refine At.cond (.t rfl) (fun c6 => ?_) (fun c6 => ?_)
     ·
      simp only [Bool.and_eq_true, decide_eq_true_eq, hpr] at c6; have h7 : a1.peek (k + 7 + 3 * (j : Int)) = min (max ((rFr r).peek 1) 0) 16777212 + 3 := (by rw [hpr]; exact lf_post (q := (⟨arZ r.w, k, (capN : Int), (lo % 64), (hi % 64), (most % 40)⟩ : Lc)) hw1 hjn c6.1 c6.2.1 c6.2.2)
      refine W ?_
      refine At.callVR rfl rfl rfl (.k rfl (.k rfl .nil)) (.blk (.st (by ((refine List.mem_append_right _ ?_; repeat (first | exact List.Mem.head _ | apply List.Mem.tail))))) (.cons (rN2 (by ((refine List.mem_append_right _ ?_; repeat (first | exact List.Mem.head _ | apply List.Mem.tail))))) .nil)) (fun hg => a_Peek (n := m) (a := a1) hI1.len (by omega)) (.all) ?_
      refine W ?_
      refine At.callVR rfl rfl rfl (.k rfl (.kc .nil)) (.blk (.st (by ((refine List.mem_append_right _ ?_; repeat (first | exact List.Mem.head _ | apply List.Mem.tail))))) (.cons (rN2 (by ((refine List.mem_append_right _ ?_; repeat (first | exact List.Mem.head _ | apply List.Mem.tail))))) .nil)) (fun hg => r_Peek (n := m) (r := rFr r) hr.len (by omega)) (.all) ?_
      refine At.callVR rfl rfl rfl (.k rfl .nil) (.nil) (fun hg => q_State) .all ?_
      refine eA rfl (R.as (v' := .bool false) (R.neq (.t rfl) (.t rfl)) (fun _ => congrArg Value.bool (by rw [h7]; simp))) ?_
      refine W ?_
      refine At.callVR rfl rfl rfl (.cons (.s rfl) (.cons (.s rfl) .nil)) (.blk (.st (by ((refine List.mem_append_right _ ?_; repeat (first | exact List.Mem.head _ | apply List.Mem.tail))))) (.cons (rN2 (by ((refine List.mem_append_right _ ?_; repeat (first | exact List.Mem.head _ | apply List.Mem.tail))))) .nil)) (fun hg => a_Peek (n := m) (a := a1) hI1.len (by omega)) (.all) ?_
      refine eA rfl (R.as (R.geq (.s rfl) .c) dT) ?_
      refine W ?_
      refine At.cond (.t rfl) (fun c8 => ?_) (fun c8 => ?_)
      ·
       simp only [Bool.and_eq_true, decide_eq_true_eq, hpr] at c8; have hY := lf_allY (q := (⟨arZ r.w, k, (capN : Int), (lo % 64), (hi % 64), (most % 40)⟩ : Lc)) (al := al) hw1 hjn hj2 ⟨c8.1, by show 3 ≤ a1.peek (k + 7 + 3 * (j : Int)); omega⟩
       refine W ?_
       refine At.callVR rfl rfl rfl (.k rfl (.k rfl .nil)) (.blk (.st (by ((refine List.mem_append_right _ ?_; repeat (first | exact List.Mem.head _ | apply List.Mem.tail))))) (.cons (rN2 (by ((refine List.mem_append_right _ ?_; repeat (first | exact List.Mem.head _ | apply List.Mem.tail))))) .nil)) (fun hg => a_Peek (n := m) (a := a1) hI1.len (by omega)) (.all) ?_
       refine W ?_
       refine At.callVR rfl rfl rfl (.k rfl (.k rfl .nil)) (.blk (.st (by ((refine List.mem_append_right _ ?_; repeat (first | exact List.Mem.head _ | apply List.Mem.tail))))) (.cons (rN2 (by ((refine List.mem_append_right _ ?_; repeat (first | exact List.Mem.head _ | apply List.Mem.tail))))) .nil)) (fun hg => a_Peek (n := m) (a := a1) hI1.len (by omega)) (.all) ?_
       refine At.callVR rfl rfl rfl (.k rfl .nil) (.nil) (fun hg => q_Version (by have := Ar.peek_bd a1 hI1.word (k + 7 + 3 * (j : Int)); omega)) .all ?_
       refine W ?_
       refine At.callVR rfl rfl rfl (.k rfl (.k rfl .nil)) (.blk (.st (by ((refine List.mem_append_right _ ?_; repeat (first | exact List.Mem.head _ | apply List.Mem.tail))))) (.cons (rN2 (by ((refine List.mem_append_right _ ?_; repeat (first | exact List.Mem.head _ | apply List.Mem.tail))))) .nil)) (fun hg => a_Peek (n := m) (a := a1) hI1.len (by omega)) (.all) ?_
       refine eA rfl (R.build bt_43 (.k rfl (.k rfl (.k rfl .nil))) (.cons rfl (.cons rfl (.cons rfl .nil))) rfl) ?_
       refine At.lit (k := iK) rfl rfl rfl Tryz.underlying40 et_43 (.k rfl .nil) (.cons (y := ⟨_, _, _⟩) rfl .nil) rfl rfl rfl (fun v1 => ⟨.all, ?_⟩)
       refine At.app (k := iK) rfl rfl rfl Tryz.underlying40 et_43 (.t rfl) (.t rfl) (fun _ => by (exact U1)) (wN M0) (by (simp <;> omega)) (fun v2 => ⟨.all, ?_⟩)
       refine W ?_
       exact At.again3 (j + 1) (al ++ [(⟨a1.peek ((k + 7 + 3 * (j : Int)) + 1), verD (a1.peek (k + 7 + 3 * (j : Int))), a1.peek ((k + 7 + 3 * (j : Int)) + 2)⟩ : Itm)]) (v2) ⟨by omega, hY⟩ (by omega) (.cons rfl (.cons rfl (.cons rfl (.cons rfl (.cons rfl (.cons rfl (.cons rfl (.cons rfl (.cons rfl (.cons rfl (.cons rfl (.cons rfl .nil)))))))))))) sl rfl
      ·
       have hN := lf_allN (q := (⟨arZ r.w, k, (capN : Int), (lo % 64), (hi % 64), (most % 40)⟩ : Lc)) (al := al) hw1 hjn hj2 (fun hc => by obtain ⟨⟨u1, u2⟩, u3⟩ := hc; simp only [hpr] at c8; have u1b : (lo % 64) ≤ _ := u1; have u2b : _ ≤ (hi % 64) := u2; (simp [u1b, u2b] at c8; done))
       refine W ?_
       exact At.again3 (j + 1) (al) (va) ⟨by omega, hN⟩ (by omega) (.cons rfl (.cons rfl (.cons rfl (.cons rfl (.cons rfl (.cons rfl (.cons rfl (.cons rfl (.cons rfl (.cons rfl (.cons rfl (.cons rfl .nil)))))))))))) (List.Sublist.refl _) rfl
     ·
      have h8 : a1.peek (k + 7 + 3 * (j : Int)) = (rFr r).peek (k + 7 + 3 * (j : Int)) := (by rw [hpr]; refine lf_else (q := (⟨arZ r.w, k, (capN : Int), (lo % 64), (hi % 64), (most % 40)⟩ : Lc)) hw1 hjn (fun hc => ?_); obtain ⟨u1, u2, u3⟩ := hc; simp only [hpr] at c6; have u2b : (lo % 64) ≤ _ := u2; have u3b : _ ≤ (hi % 64) := u3; simp [u1, u2b, u3b] at c6)
      refine W ?_
      refine At.callVR rfl rfl rfl (.k rfl (.k rfl .nil)) (.blk (.st (by ((refine List.mem_append_right _ ?_; repeat (first | exact List.Mem.head _ | apply List.Mem.tail))))) (.cons (rN2 (by ((refine List.mem_append_right _ ?_; repeat (first | exact List.Mem.head _ | apply List.Mem.tail))))) .nil)) (fun hg => a_Peek (n := m) (a := a1) hI1.len (by omega)) (.all) ?_
      refine W ?_
      refine At.callVR rfl rfl rfl (.k rfl (.k rfl .nil)) (.blk (.st (by ((refine List.mem_append_right _ ?_; repeat (first | exact List.Mem.head _ | apply List.Mem.tail))))) (.cons (rN2 (by ((refine List.mem_append_right _ ?_; repeat (first | exact List.Mem.head _ | apply List.Mem.tail))))) .nil)) (fun hg => r_Peek (n := m) (r := rFr r) hr.len (by omega)) (.all) ?_
      refine eA rfl (R.as (v' := .bool false) (R.neq (.t rfl) (.t rfl)) (fun _ => congrArg Value.bool (by rw [h8]; simp))) ?_
      refine W ?_
      refine At.callVR rfl rfl rfl (.cons (.s rfl) (.cons (.s rfl) .nil)) (.blk (.st (by ((refine List.mem_append_right _ ?_; repeat (first | exact List.Mem.head _ | apply List.Mem.tail))))) (.cons (rN2 (by ((refine List.mem_append_right _ ?_; repeat (first | exact List.Mem.head _ | apply List.Mem.tail))))) .nil)) (fun hg => a_Peek (n := m) (a := a1) hI1.len (by omega)) (.all) ?_
      refine Z ?_
      refine At.cond (.t rfl) (fun c10 => ?_) (fun c10 => ?_)
      ·
       simp only [Bool.and_eq_true, decide_eq_true_eq, hpr] at c10; have hY := lf_allY (q := (⟨arZ r.w, k, (capN : Int), (lo % 64), (hi % 64), (most % 40)⟩ : Lc)) (al := al) hw1 hjn hj2 ⟨c10.1, by show 3 ≤ a1.peek (k + 7 + 3 * (j : Int)); exact c10.2⟩
       refine W ?_
       refine At.callVR rfl rfl rfl (.k rfl (.k rfl .nil)) (.blk (.st (by ((refine List.mem_append_right _ ?_; repeat (first | exact List.Mem.head _ | apply List.Mem.tail))))) (.cons (rN2 (by ((refine List.mem_append_right _ ?_; repeat (first | exact List.Mem.head _ | apply List.Mem.tail))))) .nil)) (fun hg => a_Peek (n := m) (a := a1) hI1.len (by omega)) (.all) ?_
       refine W ?_
       refine At.callVR rfl rfl rfl (.k rfl (.k rfl .nil)) (.blk (.st (by ((refine List.mem_append_right _ ?_; repeat (first | exact List.Mem.head _ | apply List.Mem.tail))))) (.cons (rN2 (by ((refine List.mem_append_right _ ?_; repeat (first | exact List.Mem.head _ | apply List.Mem.tail))))) .nil)) (fun hg => a_Peek (n := m) (a := a1) hI1.len (by omega)) (.all) ?_
       refine At.callVR rfl rfl rfl (.k rfl .nil) (.nil) (fun hg => q_Version (by have := Ar.peek_bd a1 hI1.word (k + 7 + 3 * (j : Int)); omega)) .all ?_
       refine W ?_
       refine At.callVR rfl rfl rfl (.k rfl (.k rfl .nil)) (.blk (.st (by ((refine List.mem_append_right _ ?_; repeat (first | exact List.Mem.head _ | apply List.Mem.tail))))) (.cons (rN2 (by ((refine List.mem_append_right _ ?_; repeat (first | exact List.Mem.head _ | apply List.Mem.tail))))) .nil)) (fun hg => a_Peek (n := m) (a := a1) hI1.len (by omega)) (.all) ?_
       refine eA rfl (R.build bt_43 (.k rfl (.k rfl (.k rfl .nil))) (.cons rfl (.cons rfl (.cons rfl .nil))) rfl) ?_
       refine At.lit (k := iK) rfl rfl rfl Tryz.underlying40 et_43 (.k rfl .nil) (.cons (y := ⟨_, _, _⟩) rfl .nil) rfl rfl rfl (fun v3 => ⟨.all, ?_⟩)
       refine At.app (k := iK) rfl rfl rfl Tryz.underlying40 et_43 (.t rfl) (.t rfl) (fun _ => by (exact U1)) (wN M0) (by (simp <;> omega)) (fun v4 => ⟨.all, ?_⟩)
       refine W ?_
       exact At.again3 (j + 1) (al ++ [(⟨a1.peek ((k + 7 + 3 * (j : Int)) + 1), verD (a1.peek (k + 7 + 3 * (j : Int))), a1.peek ((k + 7 + 3 * (j : Int)) + 2)⟩ : Itm)]) (v4) ⟨by omega, hY⟩ (by omega) (.cons rfl (.cons rfl (.cons rfl (.cons rfl (.cons rfl (.cons rfl (.cons rfl (.cons rfl (.cons rfl (.cons rfl (.cons rfl (.cons rfl .nil)))))))))))) sl rfl
      ·
       have hN := lf_allN (q := (⟨arZ r.w, k, (capN : Int), (lo % 64), (hi % 64), (most % 40)⟩ : Lc)) (al := al) hw1 hjn hj2 (fun hc => by obtain ⟨⟨u1, u2⟩, u3⟩ := hc; simp only [hpr] at c10; have u1b : (lo % 64) ≤ _ := u1; have u2b : _ ≤ (hi % 64) := u2; (simp [u1b, u2b, u3] at c10; done))
       refine W ?_
       exact At.again3 (j + 1) (al) (va) ⟨by omega, hN⟩ (by omega) (.cons rfl (.cons rfl (.cons rfl (.cons rfl (.cons rfl (.cons rfl (.cons rfl (.cons rfl (.cons rfl (.cons rfl (.cons rfl (.cons rfl .nil)))))))))))) (List.Sublist.refl _) rfl
    ·
     obtain rfl : nn = j := (by omega); subst hj2
     refine W ?_
     refine At.callRF rfl rfl rfl (.k rfl .nil) (.cons (rN2 (by ((refine List.mem_append_right _ ?_; repeat (exact List.Mem.head _))))) .nil) (c_rKeys (by have := Lc.all_le ((⟨arZ r.w, k, (capN : Int), (lo % 64), (hi % 64), (most % 40)⟩ : Lc)) nn; omega)) (fun vks => ⟨.all, ?_⟩)
     refine W ?_
     refine At.nilRow iK 43 ?_
     refine At.loop3 (fun (j2 : Nat) (wn : List Itm) (vw : Value) => j2 ≤ (keysF (sortF (Lc.all (⟨arZ r.w, k, (capN : Int), (lo % 64), (hi % 64), (most % 40)⟩ : Lc) nn))).length ∧ wn = latS (Lc.all (⟨arZ r.w, k, (capN : Int), (lo % 64), (hi % 64), (most % 40)⟩ : Lc) nn) (most % 40) ((keysF (sortF (Lc.all (⟨arZ r.w, k, (capN : Int), (lo % 64), (hi % 64), (most % 40)⟩ : Lc) nn))).take j2)) (fun (j2 : Nat) (wn : List Itm) (vw : Value) => (keysF (sortF (Lc.all (⟨arZ r.w, k, (capN : Int), (lo % 64), (hi % 64), (most % 40)⟩ : Lc) nn))).length - j2) (fun (j2 : Nat) (wn : List Itm) (vw : Value) => [(4, true, .int .u8 most), (11, true, .pointer (some ⟨bcf, 0, none⟩)), (12, true, .pointer (some ⟨bq, 0, none⟩)), (13, true, .pointer (some ⟨bz, 0, none⟩)), (14, true, .int .i64 k), (15, true, .int .i64 (lo % 64)), (16, true, .int .i64 (hi % 64)), (17, true, .int .i64 ((⟨arZ r.w, k, (capN : Int), (lo % 64), (hi % 64), (most % 40)⟩ : Lc).n)), (18, true, .pointer (some ⟨bl, 0, none⟩)), (19, true, .int .i64 ((i : Int) + 1)), (20, true, va), (24, true, vw), (25, true, vks), (26, true, .int .i64 j2)]) (fun (j2 : Nat) (wn : List Itm) (vw : Value) => [rowE iK 43 vw wn, rowE zK 3 vks (keysF (sortF (Lc.all (⟨arZ r.w, k, (capN : Int), (lo % 64), (hi % 64), (most % 40)⟩ : Lc) nn))), rowE iK 43 va (Lc.all (⟨arZ r.w, k, (capN : Int), (lo % 64), (hi % 64), (most % 40)⟩ : Lc) nn), lkB bl bm x1, lkM bm x1, .blk bcf (.cells #[.int .i64 th, .int .i64 (capN : Int), .int .i64 (wdN : Int), .int .i64 ver] 23)]) (fun (j2 : Nat) (wn : List Itm) (vw : Value) => []) (0) ([]) (.slice none 0 0) ⟨Nat.zero_le _, rfl⟩ (.cons rfl (.cons rfl (.cons rfl (.cons rfl (.cons rfl (.cons rfl (.cons rfl (.cons rfl (.cons rfl (.cons rfl (.cons rfl (.cons rfl (.cons rfl (.cons rfl .nil)))))))))))))) sl rfl (fun j2 wn vw hi => ?_)
     obtain ⟨hq1, hq2⟩ := hi; have hkl := keysL_le (al := (Lc.all (⟨arZ r.w, k, (capN : Int), (lo % 64), (hi % 64), (most % 40)⟩ : Lc) nn)) (n := nn) (Lc.all_le _ _); have hwl := latS_le (Lc.all (⟨arZ r.w, k, (capN : Int), (lo % 64), (hi % 64), (most % 40)⟩ : Lc) nn) (most % 40) ((keysF (sortF (Lc.all (⟨arZ r.w, k, (capN : Int), (lo % 64), (hi % 64), (most % 40)⟩ : Lc) nn))).take j2); rw [← hq2, List.length_take] at hwl
     refine Z ?_
     refine At.condD (.t rfl) (fun c11 => ?_) (fun c11 => ?_)
     ·
      refine W ?_
      refine eA rfl (R.remI (.t rfl) .c gO) ?_
      refine eA rfl (R.as (R.conv Tryz.underlying5 Tryz.underlying3 (.t rfl)) (fun _ => congrArg (Value.int .i64) (IntWalk.i64_in _ (by omega)))) ?_
      refine At.callVR rfl rfl rfl (.k rfl (.k rfl (.k rfl .nil))) (.cons (rN2 (by ((refine List.mem_append_right _ ?_; repeat (first | exact List.Mem.head _ | apply List.Mem.tail))))) .nil) (fun hg => c_rLatest) .all ?_
      refine W ?_
      refine At.alloc rfl rfl rfl ze_43 (fun b2 hb2 => ⟨.all, ?_⟩)
      refine At.stN rfl rfl sz_43 (.t rfl) (.t rfl) rfl rfl rfl (.n U0) ⟨.all, ?_⟩
      refine W ?_
      refine At.cond (.t rfl) (fun c12 => ?_) (fun c12 => ?_)
      ·
       refine W ?_
       refine At.lit (k := iK) rfl rfl rfl Tryz.underlying40 et_43 (.k rfl .nil) (.cons rfl .nil) rfl rfl rfl (fun v5 => ⟨.all, ?_⟩)
       refine At.app (k := iK) rfl rfl rfl Tryz.underlying40 et_43 (.t rfl) (.t rfl) (fun _ => by (exact U2)) (wN M0) (by (simp <;> omega)) (fun v6 => ⟨.all, ?_⟩)
       refine W ?_
       exact At.again3 (j2 + 1) (wn ++ [(latF (Lc.all (⟨arZ r.w, k, (capN : Int), (lo % 64), (hi % 64), (most % 40)⟩ : Lc) nn) (gE (keysF (sortF (Lc.all (⟨arZ r.w, k, (capN : Int), (lo % 64), (hi % 64), (most % 40)⟩ : Lc) nn))) (j2 : Int)) (most % 40)).getD default]) (v6) ⟨by omega, latS_yes (by omega) hq2 c12⟩ (by omega) (.cons rfl (.cons rfl (.cons rfl (.cons rfl (.cons rfl (.cons rfl (.cons rfl (.cons rfl (.cons rfl (.cons rfl (.cons rfl (.cons rfl (.cons rfl (.cons rfl .nil)))))))))))))) sl rfl
      ·
       refine W ?_
       exact At.again3 (j2 + 1) (wn) (vw) ⟨by omega, latS_no (by omega) hq2 c12⟩ (by omega) (.cons rfl (.cons rfl (.cons rfl (.cons rfl (.cons rfl (.cons rfl (.cons rfl (.cons rfl (.cons rfl (.cons rfl (.cons rfl (.cons rfl (.cons rfl (.cons rfl .nil)))))))))))))) sl rfl
     ·
      obtain rfl : j2 = (keysF (sortF (Lc.all (⟨arZ r.w, k, (capN : Int), (lo % 64), (hi % 64), (most % 40)⟩ : Lc) nn))).length := (by omega); rw [List.take_length, hwant] at hq2; subst hq2
      refine W ?_
      refine cP rfl rfl rfl (.k rfl .nil) rfl (k_Items (b := bl) (bm := bm) (x := x1) (by have := hI1.ml; omega)) (Rds.all (.blk (.st (by ((refine List.mem_append_right _ ?_; repeat (first | exact List.Mem.head _ | apply List.Mem.tail))))) (.blk (.st (by ((refine List.mem_append_right _ ?_; repeat (first | exact List.Mem.head _ | apply List.Mem.tail))))) .nil))) (fun vi1 N1 H1 hR => ?_); obtain ⟨zs, ⟨ys, hy1, hy2, hy3⟩, rfl, rfl⟩ := hR; obtain rfl := hlx.items hy1 hy2 hy3; refine ⟨rfl, (.all), ?_⟩
      refine W ?_
      refine At.callVR rfl rfl rfl (.k rfl (.k rfl .nil)) (.cons (rN2 (by ((refine List.mem_append_right _ ?_; repeat (exact List.Mem.head _))))) (.cons (rN2 (by ((refine List.mem_append_right _ ?_; repeat (first | exact List.Mem.head _ | apply List.Mem.tail))))) .nil)) (fun hg => c_same) (.all) ?_
      refine W ?_
      refine eA rfl (R.as (R.leq (.t rfl) (.t rfl)) dT) ?_
      refine W ?_
      exact fT rfl (.t rfl) (⟨rfl, rfl, rfl⟩)
  have g1 : ∀ (bcf : Nat) (ba : Nat) (bq : Nat) (wv2 : Value) (r : Rr) (m : Nat) (hr : r.okk m 800000) (hm : 1 ≤ m ∧ m ≤ 20000), At w 177 (SCr dv l0 Pv ps Ov gs) (fs (F16 bcf ba bq) 2015) ([raB bq wv2 (rFr r), raW wv2 m (rFr r), .blk bcf (.cells #[.int .i64 0, .int .i64 0, .int .i64 0, .int .i64 0] 23), .blk b1 (.cells #[.int .i64 th, .int .i64 (capN : Int), .int .i64 (wdN : Int), .int .i64 ver, Ov, Pv, dv] 27)]) ([]) (G 2 (mF 8 [6, 7])) := fun bcf ba bq wv2 r m hr hm => by
   refine hnode _ _ _ _ [(6, [tt 7], 0, (mF 8 []))] (by kernel_rfl) kz ?_
   ·
    refine At.stN rfl rfl sz_23 (.t rfl) (.t rfl) rfl rfl rfl (.n U2) ⟨kz, ?_⟩
    refine W ?_
    exact wk (g0 bcf ba bq wv2 r m hr hm)
  have g2 : ∀  (ba : Nat) (bq : Nat) (wv2 : Value) (r : Rr) (m : Nat) (hr : r.okk m 800000) (hm : 1 ≤ m ∧ m ≤ 20000), At w 177 (SCr dv l0 Pv ps Ov gs) (fs (F16 0 ba bq) 1999) ([raB bq wv2 (rFr r), raW wv2 m (rFr r), .blk b1 (.cells #[.int .i64 th, .int .i64 (capN : Int), .int .i64 (wdN : Int), .int .i64 ver, Ov, Pv, dv] 27)]) ([]) (G 3 (mF 8 [5, 6, 7])) := fun  ba bq wv2 r m hr hm => by
   refine hnode _ _ _ _ [(5, [], 2, (mF 8 [6, 7]))] (by kernel_rfl) kz ?_
   ·
    refine At.alloc rfl rfl rfl ze_23 (fun b2 hb2 => ⟨kz, ?_⟩)
    refine W ?_
    refine At.perm (permOf [_, _, _, _] [0, 1, 2, 3] [1, 2, 0, 3] rfl []) ?_
    exact wk (g1 b2 ba bq wv2 r m hr hm)
  have g3 : ∀ (bcf : Nat) (ba : Nat) (wv : Value) (r : Rr) (m : Nat) (hr : r.okk m 800000) (hm : 1 ≤ m ∧ m ≤ 20000), At w 177 (SCr dv l0 Pv ps Ov gs) (fs (F16 bcf ba 0) 2007) ([raB ba wv r, raW wv m r, .blk bcf (.cells #[.int .i64 0, .int .i64 0, .int .i64 0, .int .i64 0] 23), .blk b1 (.cells #[.int .i64 th, .int .i64 (capN : Int), .int .i64 (wdN : Int), .int .i64 ver, Ov, Pv, dv] 27)]) ([]) (G 3 (mF 8 [4, 6, 7])) := fun bcf ba wv r m hr hm => by
   refine hnode _ _ _ _ [(4, [], 2, (mF 8 [6, 7]))] (by kernel_rfl) kz ?_
   ·
    refine cP rfl rfl rfl (.k rfl .nil) rfl (h_Fresh (r := r) hr.len (by omega)) (Rds.all (.blk (.st (by ((refine List.mem_append_right _ ?_; repeat (exact List.Mem.head _))))) (.cons (rN2 (by ((refine List.mem_append_right _ ?_; repeat (first | exact List.Mem.head _ | apply List.Mem.tail))))) .nil))) (fun v N1 H1 hR => ?_); obtain ⟨⟨bq, wv2, rfl, rfl⟩, rfl⟩ := hR; refine ⟨rfl, (Cl.keptS sl), ?_⟩
    refine W ?_
    exact wk (g1 bcf ba bq wv2 r m hr hm)
  have g4 : ∀  (ba : Nat) (wv : Value) (r : Rr) (m : Nat) (hr : r.okk m 800000) (hm : 1 ≤ m ∧ m ≤ 20000), At w 177 (SCr dv l0 Pv ps Ov gs) (fs (F16 0 ba 0) 1991) ([raB ba wv r, raW wv m r, .blk b1 (.cells #[.int .i64 th, .int .i64 (capN : Int), .int .i64 (wdN : Int), .int .i64 ver, Ov, Pv, dv] 27)]) ([]) (G 4 (mF 8 [4, 5, 6, 7])) := fun  ba wv r m hr hm => by
   refine hnode _ _ _ _ [(4, [], 3, (mF 8 [5, 6, 7])), (5, [], 3, (mF 8 [4, 6, 7]))] (by kernel_rfl) kz ?_
   refine ⟨?_, ?_⟩
   ·
    refine cP rfl rfl rfl (.k rfl .nil) rfl (h_Fresh (r := r) hr.len (by omega)) (Rds.all (.blk (.st (by ((refine List.mem_append_right _ ?_; repeat (exact List.Mem.head _))))) (.cons (rN2 (by ((refine List.mem_append_right _ ?_; repeat (first | exact List.Mem.head _ | apply List.Mem.tail))))) .nil))) (fun v N1 H1 hR => ?_); obtain ⟨⟨bq, wv2, rfl, rfl⟩, rfl⟩ := hR; refine ⟨rfl, (Cl.keptS sl), ?_⟩
    refine W ?_
    exact wk (g2  ba bq wv2 r m hr hm)
   ·
    refine At.alloc rfl rfl rfl ze_23 (fun b2 hb2 => ⟨kz, ?_⟩)
    refine W ?_
    refine At.perm (permOf [_, _, _, _] [0, 1, 2, 3] [1, 2, 0, 3] rfl []) ?_
    exact wk (g3 b2 ba wv r m hr hm)
  have g5 : ∀ (bcf : Nat), At w 177 (SCr dv l0 Pv ps Ov gs) (fs (F16 bcf 0 0) 2003) ([.blk bcf (.cells #[.int .i64 0, .int .i64 0, .int .i64 0, .int .i64 0] 23), .blk b1 (.cells #[.int .i64 th, .int .i64 (capN : Int), .int .i64 (wdN : Int), .int .i64 ver, Ov, Pv, dv] 27)]) ([]) (G 4 (mF 8 [3, 4, 6, 7])) := fun bcf => by
   refine hnode _ _ _ _ [(3, [], 3, (mF 8 [4, 6, 7]))] (by kernel_rfl) kz ?_
   ·
    refine cX rfl rfl rfl (.k rfl .nil) rfl .nil (.cons (rS M0) (.cons (rS M1) (.ofNest (rS M2) (fun y hy => rS (by simp only [List.mem_append]; exact .inl (hG y hy)))))) (h_Left (th := th) (ver := ver) (cap := capN) (n := wdN) (by omega) (by omega) (fun y hy => by have := hno.ol y hy; omega) (by omega)) (Aprt.sub1 (fun e he => he) .nil) (fun v B hR => ⟨Cl.keptS (List.sublist_append_of_sublist_right sl), ?_⟩); obtain ⟨ba, wv, r, m, rfl, rfl, hr, hm1, hm2⟩ := hR
    refine W ?_
    exact wk (g3 bcf ba wv r m hr ⟨hm1, hm2⟩)
  have g6 : ∀ (_ : True), At w 177 (SCr dv l0 Pv ps Ov gs) (fs (F16 0 0 0) 1987) ([.blk b1 (.cells #[.int .i64 th, .int .i64 (capN : Int), .int .i64 (wdN : Int), .int .i64 ver, Ov, Pv, dv] 27)]) ([]) (G 5 (mT 8 [0, 1, 2])) := fun _ => by
   refine hnode _ _ _ _ [(3, [], 4, (mF 8 [4, 5, 6, 7])), (5, [], 4, (mF 8 [3, 4, 6, 7]))] (by kernel_rfl) kI ?_
   refine ⟨?_, ?_⟩
   ·
    refine cX rfl rfl rfl (.k rfl .nil) rfl .nil (.cons (rS M0) (.cons (rS M1) (.ofNest (rS M2) (fun y hy => rS (by simp only [List.mem_append]; exact .inl (hG y hy)))))) (h_Left (th := th) (ver := ver) (cap := capN) (n := wdN) (by omega) (by omega) (fun y hy => by have := hno.ol y hy; omega) (by omega)) (Aprt.sub1 (fun e he => he) .nil) (fun v B hR => ⟨Cl.keptS (List.sublist_append_of_sublist_right (List.Sublist.refl _)), ?_⟩); obtain ⟨ba, wv, r, m, rfl, rfl, hr, hm1, hm2⟩ := hR
    refine W ?_
    exact wk (g4  ba wv r m hr ⟨hm1, hm2⟩)
   ·
    refine At.alloc rfl rfl rfl ze_23 (fun b2 hb2 => ⟨kz, ?_⟩)
    refine W ?_
    exact wk (g5 b2)
  refine W ?_
  exact wk (g6 trivial)
end Go.Proofs.YtbolanigdkgbdaaGreat
namespace Go.Proofs.YtbolanigdkgbdaaGreat
open Go Go.RowKit Go.ChangeShapes Go.Deep
set_option linter.unusedVariables false
theorem cell_spot {w : World} {a : Addr} {v : Value} (h : w.cell? a = some v) : a.spot = none ∧ a.block < w.heap.size := by
  unfold World.cell? at h
  split at h
  · rename_i c e f hb
    split at h
    · cases h
    · rename_i hs
      refine ⟨by simpa using hs, ?_⟩
      rcases Nat.lt_or_ge a.block w.heap.size with h' | h'
      · exact h'
      · rw [Array.getElem?_eq_none h'] at hb; cases hb
  · cases h
theorem rd_of_cells {w : World} {a : Addr} {sz n cap : Nat} {xs : List Value} (hl : xs.length = n * sz) (hcap : n ≤ cap) (hm : cap ≤ maxLen) (hsz : 0 < sz) (h : ∀ j u, xs[j]? = some u → w.cell? (a.add j) = some u) : RdIs w (.slice (some a) n cap) sz n xs := by
  refine ⟨some a, cap, rfl, hcap, hm, hl, fun hn => ?_⟩
  have h0 : 0 < xs.length := by rw [hl]; exact Nat.mul_pos hn hsz
  have h1 := h 0 _ (List.getElem?_eq_getElem h0)
  have e0 : a.add 0 = a := by simp [Addr.add]
  rw [e0] at h1
  obtain ⟨h2, h3⟩ := cell_spot h1
  refine ⟨a.block, a.off, ?_, h3, fun j u hu => ?_⟩
  · cases a; simp at h2; subst h2; rfl
  · have := h j u hu
    cases a with
    | mk b o s => simp only at h2; subst h2; rwa [add_addr] at this
theorem open_rdZ {H : Type} {enc : TypeId × Value → H} {P : Program} {w : World} {base : Nat} {spare : Nat → Bool} {held : Bool} {t e : TypeId} {fuel : Nat} {cs : List Value} {x : DataW H × List MemPlace} (ht : P.underlying t = some (.slice e)) (he : P.underlying e = some (.int .i64)) (hc : P.cellsOf e = 1)
    (h : DataW.trod enc P w base spare held fuel t cs = some x) : ∃ v, ∃ l : List Int, cs = [v] ∧ RdIs w v 1 l.length (zK.all l) ∧ ∀ z ∈ l, (Lit.int .i64 z).wf = true := by
  have hz : ∀ l : List Int, zK.all l = l.map (Value.int .i64) := fun l => by
    induction l with
    | nil => rfl
    | cons x l ih => rw [Ek.all_cons, ih]; rfl
  rcases open_ints ht he hc h with ⟨rfl, rfl⟩ | ⟨a, len, cap, zs, rfl, hb, hl, hm, hzl, rfl, hcell, hwf⟩
  · exact ⟨_, [], rfl, ⟨none, 0, rfl, Nat.le_refl _, Nat.zero_le _, rfl, fun h => absurd h (Nat.lt_irrefl _)⟩, by simp⟩
  · have hle : len ≤ zs.length := by rw [hzl]; split <;> omega
    have hlen : (zs.take len).length = len := by rw [List.length_take]; omega
    refine ⟨_, zs.take len, rfl, ?_, fun z hz => hwf z (List.mem_of_mem_take hz)⟩
    rw [hlen, hz]
    refine rd_of_cells (by simp; omega) hl hm (by omega) fun j u hu => ?_
    have hj : j < len := by have := (List.getElem?_eq_some_iff.1 hu).1; simp at this; omega
    rw [hcell j (by omega), ← hu]
    simp [hj, List.getD, List.getElem?_eq_getElem (show j < zs.length by omega)]
end Go.Proofs.YtbolanigdkgbdaaGreat
namespace Go.Proofs.YtbolanigdkgbdaaGreat
open Go Go.RowKit Go.ChangeShapes Go.WideShapes Go.Deep Go.Joins
set_option linter.unusedVariables false
set_option maxRecDepth 100000
section
variable {H : Type} {enc : TypeId × Value → H} {P : Program} {w : World} {base : Nat} {spare : Nat → Bool} {held : Bool}
theorem open_rdK {α : Type} [Inhabited α] (k : Ek α) (φ : α → Prop) {t e : TypeId} {fuel : Nat} {cs : List Value} {x : DataW H × List MemPlace} (ht : P.underlying t = some (.slice e)) (ce : P.cellsOf e = k.sz) (h0 : 0 < k.sz)
    (hE : ∀ n cs' y, cs'.length = k.sz → DataW.trod enc P w base spare held n e cs' = some y → ∃ q, cs' = k.enc q ∧ φ q) (h : DataW.trod enc P w base spare held fuel t cs = some x) : ∃ v, ∃ l : List α, cs = [v] ∧ RdIs w v k.sz l.length (k.all l) ∧ ∀ z ∈ l, φ z := by
  rcases open_slice ht h with ⟨rfl, rfl⟩ | ⟨a, len, cap, m, n, D, Pl, rfl, hb, hl, hm, hmm, rfl, hx⟩
  · exact ⟨_, [], rfl, ⟨none, 0, rfl, Nat.le_refl _, Nat.zero_le _, by simp [Ek.all], fun h => absurd h (Nat.lt_irrefl _)⟩, by simp⟩
  · have hlm : len ≤ m := by rw [hmm]; split <;> omega
    have each : ∀ i, i < m → ∃ q : α, (∀ c u, (k.enc q)[c]? = some u → w.cell? (a.add (i * k.sz + c)) = some u) ∧ φ q := by
      intro i hi
      obtain ⟨cs', h1, h2⟩ := hx i hi
      rw [ce] at h1
      obtain ⟨_, hlen, hcell⟩ := World.cells?_some h1
      obtain ⟨q, rfl, hφ⟩ := hE _ _ _ hlen h2
      refine ⟨q, fun c u hu => ?_, hφ⟩
      have hc : c < k.sz := by have := (List.getElem?_eq_some_iff.1 hu).1; rwa [k.len] at this
      have := hcell c hc
      rw [add_add] at this
      rw [this]; exact hu
    obtain ⟨q, hq⟩ := choose_lt each
    refine ⟨_, (List.range len).map q, rfl, ?_, fun z hz => ?_⟩
    · rw [List.length_map, List.length_range]
      refine rd_of_cells (by rw [k.all_length]; simp) hl hm h0 fun j u hu => ?_
      have hj : j < len * k.sz := by have := (List.getElem?_eq_some_iff.1 hu).1; rw [k.all_length] at this; simpa using this
      obtain ⟨i, c, hi, hc, rfl⟩ : ∃ i c, i < len ∧ c < k.sz ∧ j = i * k.sz + c := ⟨j / k.sz, j % k.sz, (Nat.div_lt_iff_lt_mul h0).2 hj, Nat.mod_lt _ h0, by rw [Nat.mul_comm]; exact (Nat.div_add_mod _ _).symm⟩
      have hg : gE ((List.range len).map q) (i : Int) = q i := by
        unfold gE
        rw [Int.toNat_natCast, List.getD_eq_getElem?_getD, List.getElem?_map, List.getElem?_range hi]; rfl
      have hlt : c < (k.enc (q i)).length := by rw [k.len]; exact hc
      have h2 := Ek.all_get k ((List.range len).map q) (j := (i : Int)) c (u := (k.enc (q i))[c]'hlt) (by rw [hg]; exact List.getElem?_eq_getElem hlt) (by simp; omega)
      rw [Int.toNat_natCast] at h2
      have h3 := hu.symm.trans h2
      injection h3 with h3
      exact (hq i (by omega)).1 c u (by rw [h3]; exact List.getElem?_eq_getElem hlt)
    · obtain ⟨i, hi, rfl⟩ := List.mem_map.1 hz
      exact (hq i (by have := List.mem_range.1 hi; omega)).2
end
section
variable {H : Type} {enc : TypeId × Value → H} {w : World} {base : Nat} {spare : Nat → Bool} {held : Bool}
theorem open_op {n : Nat} {cs : List Value} {y : DataW H × List MemPlace} (hl : cs.length = 4) (h : DataW.trod enc Tryz.prog w base spare held n 110 cs = some y) : ∃ q, cs = opK.enc q := by
  obtain ⟨y0, y1, y2, y3, m, _, _, g0, g1, g2, g3⟩ := trod_struct4 Tryz.underlying110 h
  match cs, hl with
  | [v0, v1, v2, v3], _ =>
    have hc : Tryz.prog.cellsOf 3 = 1 := by kernel_rfl
    simp [hc] at g0 g1 g2 g3
    obtain ⟨n0, e0, _, _⟩ := DataW.trod_int Tryz.underlying3 g0
    obtain ⟨n1, e1, _, _⟩ := DataW.trod_int Tryz.underlying3 g1
    obtain ⟨n2, e2, _, _⟩ := DataW.trod_int Tryz.underlying3 g2
    obtain ⟨n3, e3, _, _⟩ := DataW.trod_int Tryz.underlying3 g3
    simp at e0 e1 e2 e3
    subst e0 e1 e2 e3
    exact ⟨⟨n0, n1, n2, n3⟩, rfl⟩
theorem open_ops {n : Nat} {cs : List Value} {y : DataW H × List MemPlace} (h : DataW.trod enc Tryz.prog w base spare held n 75 cs = some y) : ∃ v, ∃ l : List Op4, cs = [v] ∧ RdIs w v opK.sz l.length (opK.all l) := by
  obtain ⟨v, l, h1, h2, _⟩ := open_rdK opK (fun _ => True) Tryz.underlying75 (by kernel_rfl) (by decide) (fun n cs' y hl hy => by obtain ⟨q, hq⟩ := open_op hl hy; exact ⟨q, hq, trivial⟩) h
  exact ⟨v, l, h1, h2⟩
theorem rd_one {v : Value} {sz m : Nat} {xs : List Value} (h : RdIs w v sz m xs) : v.oneCell' = true := by
  obtain ⟨A, cap, rfl, _⟩ := h; rfl
abbrev vlK : Ek (SV × List Op4) := ⟨fun x => [x.1.1], 1, fun _ => rfl, fun x v hv => by simp at hv; subst hv; exact x.1.2⟩
theorem vlK_all (l : List (SV × List Op4)) : vlK.all l = (l.map fun x => ((x.1.1, x.2) : Value × List Op4)).map (·.1) := by
  induction l with
  | nil => rfl
  | cons x l ih => rw [Ek.all_cons, ih]; rfl
theorem open_opss {n : Nat} {cs : List Value} {y : DataW H × List MemPlace} (h : DataW.trod enc Tryz.prog w base spare held n 24 cs = some y) : ∃ v, ∃ gs : opsRows, cs = [v] ∧ RdIs w v 1 gs.length (gs.map (·.1)) ∧ ∀ z ∈ gs, RdIs w z.1 opK.sz z.2.length (opK.all z.2) := by
  obtain ⟨v, l, h1, h2, h3⟩ := open_rdK vlK (fun q => RdIs w q.1.1 opK.sz q.2.length (opK.all q.2)) Tryz.underlying24 (by kernel_rfl) (by decide) (fun n cs' y hl hy => by
    obtain ⟨v, l, h1, h2⟩ := open_ops hy
    exact ⟨(⟨v, rd_one h2⟩, l), h1, h2⟩) h
  refine ⟨v, l.map fun x => (x.1.1, x.2), h1, ?_, fun z hz => ?_⟩
  · rw [List.length_map, ← vlK_all]; exact h2
  · obtain ⟨q, hq, rfl⟩ := List.mem_map.1 hz
    exact h3 q hq
theorem open_script {r : Reach} {b0 : Nat} {v : Value} {d : DataW H} {p : List MemPlace} (hv : Value.okWide Tryz.prog w r b0 27 v) (h : DataW.Trod enc Tryz.prog w base spare held 27 v d p) :
    ∃ (th cap wd ver : Int) (Ov Pv dv : Value) (gs : opsRows) (ps l0 : List Int), v = .agg #[.int .i64 th, .int .i64 cap, .int .i64 wd, .int .i64 ver, Ov, Pv, dv] ∧ (∀ e ∈ SCr dv l0 Pv ps Ov gs, e.holds w) := by
  obtain ⟨cs, rfl, hsz⟩ := okWide_struct Tryz.underlying27 hv
  obtain ⟨fuel, hf⟩ := h
  have hC : Tryz.prog.cellsOf 27 = 7 := by kernel_rfl
  rw [hC] at hsz
  obtain ⟨cs⟩ := cs
  match cs, hsz with
  | [c0, c1, c2, c3, c4, c5, c6], _ =>
    obtain ⟨y0, y1, y2, y3, n, _, _, g0, g1, g2, g3⟩ := trod_struct4 Tryz.underlying27 hf
    have hc0 : Tryz.prog.cellsOf 23 = 4 := by kernel_rfl
    have hc1 : Tryz.prog.cellsOf 24 = 1 := by kernel_rfl
    have hc2 : Tryz.prog.cellsOf 25 = 1 := by kernel_rfl
    have hci : Tryz.prog.cellsOf 3 = 1 := by kernel_rfl
    simp [Value.cells, hc0, hc1, hc2] at g0 g1 g2 g3
    obtain ⟨z0, z1, z2, z3, m, _, _, f0, f1, f2, f3⟩ := trod_struct4 Tryz.underlying23 g0
    simp [hci] at f0 f1 f2 f3
    obtain ⟨th, e0, _, _⟩ := DataW.trod_int Tryz.underlying3 f0
    obtain ⟨cap, e1, _, _⟩ := DataW.trod_int Tryz.underlying3 f1
    obtain ⟨wd, e2, _, _⟩ := DataW.trod_int Tryz.underlying3 f2
    obtain ⟨ver, e3, _, _⟩ := DataW.trod_int Tryz.underlying3 f3
    simp at e0 e1 e2 e3
    subst e0 e1 e2 e3
    obtain ⟨Ov, gs, e4, rO, rG⟩ := open_opss g1
    obtain ⟨Pv, ps, e5, rP, _⟩ := open_rdZ Tryz.underlying25 Tryz.underlying3 hci g2
    obtain ⟨dv, l0, e6, rD, _⟩ := open_rdZ Tryz.underlying25 Tryz.underlying3 hci g3
    simp at e4 e5 e6
    subst e4 e5 e6
    refine ⟨th, cap, wd, ver, _, _, _, gs, ps, l0, rfl, fun e he => ?_⟩
    rcases List.mem_cons.1 he with rfl | he
    · exact rD
    · rcases List.mem_cons.1 he with rfl | he
      · exact rP
      · rcases List.mem_cons.1 he with rfl | he
        · exact rO
        · obtain ⟨q, hq, rfl⟩ := List.mem_map.1 he
          exact rG q hq
end
end Go.Proofs.YtbolanigdkgbdaaGreat
