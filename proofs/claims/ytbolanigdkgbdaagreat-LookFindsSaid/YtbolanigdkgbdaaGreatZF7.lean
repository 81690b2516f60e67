/- Part of the proof: lemmas for what the last file states; no condition. -/
import Derived.Test.YtbolanigdkgbdaaGreatZF6
set_option linter.unusedSectionVars false
namespace Go.Proofs.YtbolanigdkgbdaaGreat
open Go Go.RowKit
theorem bdnZF7 {p : Prop} (h : p := by simp only [List.length_append, List.length_cons, List.length_nil, List.length_take, List.length_drop]; omega) : p := h
set_option maxRecDepth 10000
set_option linter.unusedVariables false
set_option maxHeartbeats 1000000
theorem fo_160_11 : fieldOff? Tryz.prog 160 11 = some 14 := by kernel_rfl
theorem fo_160_7 : fieldOff? Tryz.prog 160 7 = some 10 := by kernel_rfl
structure Ds where
  th : Int
  cap : Int
  wd : Int
  ver : Int
  t : Int
  seq : Int
  lo : Int
  hi : Int
  line : Int
  at_ : Int
  n : Int
abbrev ptrO (p : Option Nat) : Value := .pointer (match p with | none => none | some b => some ⟨b, 0, none⟩)
abbrev dsC (kp : Nat) (wp lp : Option Nat) (Iv : Value) (x : Ds) : Array Value := #[.int .i64 x.th, .int .i64 x.cap, .int .i64 x.wd, .int .i64 x.ver, .int .i64 x.t, .int .i64 x.seq, .int .i64 x.lo, .int .i64 x.hi, .pointer (some ⟨kp, 0, none⟩), ptrO wp, ptrO lp, .int .i64 x.line, .int .i64 x.at_, .int .i64 x.n, Iv]
abbrev dsB (b kp : Nat) (wp lp : Option Nat) (Iv : Value) (x : Ds) : Ent := .blk b (.cells (dsC kp wp lp Iv x) 160)
def dropS (r : List Itm) (key : Int) : List Itm := match r with
  | [] => []
  | z :: q => if z.key = key then q else z :: q
def takeD (l : List Itm) (y : Itm) : List Itm := l.take (posD l y.key) ++ [y] ++ dropS (l.drop (posD l y.key)) y.key
theorem dropS_len (r : List Itm) (key : Int) : (dropS r key).length ≤ r.length := by
  unfold dropS; split
  · simp
  · split <;> simp
theorem takeD_len (l : List Itm) (y : Itm) : (takeD l y).length ≤ l.length + 1 := by
  unfold takeD
  have := dropS_len (l.drop (posD l y.key)) y.key
  simp only [List.length_append, List.length_take, List.length_cons, List.length_nil]
  rw [List.length_drop] at this
  omega
theorem rest_drop {l : List Itm} {k : Nat} : (l.drop k).take (l.length - k) = l.drop k := List.take_of_length_le (by simp)
theorem takeD_same {l : List Itm} {y : Itm} {k : Nat} (hk1 : k ≤ l.length) (hk : posD l y.key = k) (c : (decide ((0 : Int) < (((l.drop k).take (l.length - k)).length : Int)) && decide ((gE ((l.drop k).take (l.length - k)) 0).key = y.key)) = true) :
    (([] ++ (l.drop 0).take (k - 0)) ++ [y]) ++ ((((l.drop k).take (l.length - k)).drop 1).take (((l.drop k).take (l.length - k)).length - 1)) = takeD l y := by
  rw [rest_drop] at *
  unfold takeD
  rw [hk]
  cases hq : l.drop k with
  | nil => rw [hq] at c; simp at c
  | cons z q =>
    rw [hq] at c
    simp [gE] at c
    simp [dropS, c]
    rw [List.take_of_length_le (by have := congrArg List.length hq; simp at this ⊢; omega)]; rfl
theorem takeD_other {l : List Itm} {y : Itm} {k : Nat} (hk1 : k ≤ l.length) (hk : posD l y.key = k) (c : (decide ((0 : Int) < (((l.drop k).take (l.length - k)).length : Int)) && decide ((gE ((l.drop k).take (l.length - k)) 0).key = y.key)) = false) :
    (([] ++ (l.drop 0).take (k - 0)) ++ [y]) ++ ((l.drop k).take (l.length - k)) = takeD l y := by
  rw [rest_drop] at *
  unfold takeD
  rw [hk]
  cases hq : l.drop k with
  | nil => simp [dropS]
  | cons z q =>
    rw [hq] at c
    simp [gE] at c
    simp [dropS, c]
theorem ds_takes {b kp bl : Nat} {wp : Option Nat} {Iv Lv : Value} {x : Ds} {y : Dl} {its : List Itm} (hL : y.l.length ≤ 10000) (hI : its.length ≤ 1000000) : FnX Tryz.prog 125 [.pointer (some ⟨b, 0, none⟩)] ([dlB bl Lv y, rdE iK Lv y.l]) ([rowE iK 43 Iv its, dsB b kp wp (some bl) Iv x]) (fun v N => ∃ Iv2, v = .tuple #[] ∧ N = [rowE iK 43 Iv2 (y.l.foldl takeD its), dsB b kp wp (some bl) Iv2 x]) := by
 refine FnX.enter Tryz.func125 (by kernel_rfl) rfl (n := 101) rfl rfl (fun w df hds how => ?_)
 have hi0 : its = (y.l.take 0).foldl takeD its := rfl
 generalize hits : its = its0 at hi0 ⊢
 have hI0 : its0.length ≤ 1000000 := hits ▸ hI
 clear hits hi0
 refine W ?_
 refine At.loop3 (fun (i : Nat) (its : List Itm) (Iv : Value) => i ≤ y.l.length ∧ its = (y.l.take i).foldl takeD its0 ∧ its.length ≤ 1000000 + i) (fun (i : Nat) (its : List Itm) (Iv : Value) => y.l.length - i) (fun (i : Nat) (its : List Itm) (Iv : Value) => [(0, true, .pointer (some ⟨b, 0, none⟩)), (2, true, .int .i64 i)]) (fun (i : Nat) (its : List Itm) (Iv : Value) => [rowE iK 43 Iv its, dsB b kp wp (some bl) Iv x]) (fun (i : Nat) (its : List Itm) (Iv : Value) => []) (0) (its0) (Iv) ⟨Nat.zero_le _, rfl, by omega⟩ (.cons rfl (.cons rfl .nil)) (List.Sublist.refl _) rfl (fun i its Iv hi => ?_)
 obtain ⟨hi1, hi2, hi3⟩ := hi
 refine Z ?_
 refine At.condD (.t rfl) (fun c1 => ?_) (fun c1 => ?_)
 ·
  refine W ?_
  refine At.loop1 (fun (k : Nat) => k ≤ its.length ∧ ∀ j : Nat, j < k → (gE its (j : Int)).key < (gE y.l (i : Int)).key) (fun (k : Nat) => its.length - k) (fun (k : Nat) => [(0, true, .pointer (some ⟨b, 0, none⟩)), (2, true, .int .i64 i), (3, true, .int .i64 k)]) (fun (k : Nat) => [rowE iK 43 Iv its, dsB b kp wp (some bl) Iv x]) (fun (k : Nat) => []) (0) ⟨Nat.zero_le _, fun j hj => absurd hj (Nat.not_lt_zero _)⟩ (.cons rfl (.cons rfl (.cons rfl .nil))) (List.Sublist.refl _) rfl (fun k hi => ?_)
  obtain ⟨hk1, hk2⟩ := hi
  refine W ?_
  refine At.drawK [tt 0, tt 1, tt 2, tt 3, tt 4, tt 5, tt 6, tt 7, tt 8, tt 9, tt 10, tt 11, tt 12, tt 13, tt 14, tt 15, tt 16, tt 17, tt 18, tt 19, tt 20, tt 21, tt 22, tt 23, tt 24, tt 25, tt 26, tt 27, tt 28] (by kernel_rfl) (by kernel_rfl) ?_
  refine U ?_
  refine sJ rfl (R.lenRd Tryz.underlying40 (.t rfl) (wK M2)) ?_
  refine sJ rfl (R.lss (.t rfl) (.t rfl)) ?_
  refine U ?_
  refine sJ rfl (R.indexRd Tryz.underlying40 sz_43 (.s rfl) (wK M2) (.s rfl) (fun hg => (by ((simp [-List.length_eq_zero_iff] at hg; omega))))) ?_
  refine sJ rfl (R.fieldRd fo_43_0 (.s rfl) (wK M2) (fun hg => (by ((simp [-List.length_eq_zero_iff] at hg; omega))))) ?_
  refine sJ rfl (R.loadRd Tryz.underlying3 rfl (.s rfl) (wK M2) (fun hg => by exact Ek.getN rfl (by ((simp [-List.length_eq_zero_iff] at hg; omega))))) ?_
  refine U ?_
  refine sJ rfl (R.indexRd Tryz.underlying40 sz_43 (.s rfl) (rK M1) (.s rfl) gO) ?_
  refine sJ rfl (R.fieldRd fo_43_0 (.s rfl) (rK M1) gO) ?_
  refine sJ rfl (R.loadRd Tryz.underlying3 rfl (.s rfl) (rK M1) (fun hg => by exact Ek.getN rfl (by omega))) ?_
  refine sJ rfl (R.lss (.s rfl) (.s rfl)) ?_
  refine sJ rfl (R.pickAnd (.t rfl) rfl (by (intro hg h; rw [h]; rfl))) ?_
  refine U ?_
  refine At.cond (.t rfl) (fun c2 => ?_) (fun c2 => ?_)
  ·
   refine W ?_
   exact At.again1 (k + 1) ⟨by simp at c2; omega, fun j hj => (by simp at c2; rcases Nat.lt_succ_iff_lt_or_eq.1 hj with h | h; exact hk2 j h; subst h; exact c2.2)⟩ (by simp at c2; omega) (.cons rfl (.cons rfl (.cons rfl .nil))) (List.Sublist.refl _) rfl
  ·
   refine W ?_
   refine eA rfl (R.sliceRd Tryz.underlying40 sz_43 (.t rfl) (wS M2) (.t rfl) rfl gO) ?_
   refine W ?_
   have hrl : ((its.drop k).take (its.length - k)).length = its.length - k := (by rw [rest_drop, List.length_drop])
   refine At.drawK [tt 0, tt 1, tt 2, tt 3, tt 4, tt 5, tt 6, tt 7, tt 8, tt 9, tt 10, tt 11, tt 12, tt 13, tt 14, tt 15, tt 16, tt 17, tt 18, tt 19, tt 20] (by kernel_rfl) (by kernel_rfl) ?_
   refine U ?_
   refine sJ rfl (R.lenRd Tryz.underlying40 (.t rfl) (RdIn.cutE (k := iK) (wK M2) k its.length (by omega) (by omega))) ?_
   refine sJ rfl (R.gtr (.t rfl) .c) ?_
   refine U ?_
   refine sJ rfl (R.indexRd Tryz.underlying40 sz_43 (.s rfl) (RdIn.cutE (k := iK) (wK M2) k its.length (by omega) (by omega)) .c (fun hg => (by ((simp [-List.length_eq_zero_iff] at hg; omega))))) ?_
   refine sJ rfl (R.fieldRd fo_43_0 (.s rfl) (RdIn.cutE (k := iK) (wK M2) k its.length (by omega) (by omega)) (fun hg => (by ((simp [-List.length_eq_zero_iff] at hg; omega))))) ?_
   refine sJ rfl (R.loadRd Tryz.underlying3 rfl (.s rfl) (RdIn.cutE (k := iK) (wK M2) k its.length (by omega) (by omega)) (fun hg => by exact Ek.getN rfl (by ((simp [-List.length_eq_zero_iff] at hg; omega))))) ?_
   refine U ?_
   refine sJ rfl (R.indexRd Tryz.underlying40 sz_43 (.s rfl) (rK M1) (.s rfl) gO) ?_
   refine sJ rfl (R.fieldRd fo_43_0 (.s rfl) (rK M1) gO) ?_
   refine sJ rfl (R.loadRd Tryz.underlying3 rfl (.s rfl) (rK M1) (fun hg => by exact Ek.getN rfl (by omega))) ?_
   refine sJ rfl (R.eql (.s rfl) (.s rfl)) ?_
   refine sJ rfl (R.pickAnd (.t rfl) rfl (by (intro hg h; rw [h]; rfl))) ?_
   refine U ?_
   refine At.cond (.t rfl) (fun c3 => ?_) (fun c3 => ?_)
   ·
    have hrs : 1 ≤ ((its.drop k).take (its.length - k)).length := (by simp only [Bool.and_eq_true, decide_eq_true_eq] at c3; omega)
    refine W ?_
    refine eA rfl (R.sliceRd Tryz.underlying40 sz_43 (.t rfl) (RdIn.cutE (k := iK) (wS M2) k its.length (by omega) (by omega)) .c rfl (fun hg => (by (exact bdnZF7)))) ?_
    refine W ?_
    let F60 : Value → Value → Value → Value → Fr := fun va vl vb vc => [(77, pt b 0), (78, pt b 0), (80, pt b 14), (82, iv (k : Int)), (83, true, cutV Iv 3 0 k), (84, true, va), (85, pt b 0), (87, pt b 10), (92, iv (i : Int)), (94, true, .agg (iK.enc (gE y.l (i : Int))).toArray), (95, true, vl), (96, true, vb), (97, true, cutV (cutV Iv 3 k its.length) 3 1 ((its.drop k).take (its.length - k)).length), (98, true, vc), (100, pt b 14), (0, pt b 0), (2, iv (i : Int)), (3, iv (k : Int)), (4, true, cutV (cutV Iv 3 k its.length) 3 1 ((its.drop k).take (its.length - k)).length)]
    refine At.dag [tt 0, tt 1, tt 2, tt 3, tt 5, tt 8, tt 9, tt 10, tt 15, tt 20] 15 (mT 25 [0, 1, 2, 3, 5, 8, 9, 10, 15, 20]) ([dlB bl Lv y, rdE iK Lv y.l, rowE iK 43 Iv its]) (keepOf sl) (by kernel_rfl) (by kernel_rfl) (fun G hnode hdone => ?_)
    have g0 : ∀ (va vl vb vc : Value), At w 101 [dlB bl Lv y, rdE iK Lv y.l] (fs (F60 va vl vb vc) 524287) ([rowE iK 43 vc (((([] ++ (its.drop 0).take (k - 0)) ++ [(gE y.l (i : Int))]) ++ ((((its.drop k).take (its.length - k)).drop 1).take (((its.drop k).take (its.length - k)).length - 1)))), rowE iK 43 Iv its, dsB b kp wp (some bl) vc x]) ([]) (G 0 (mF 25 [])) := fun va vl vb vc => by
     refine hdone _ _ _ (by kernel_rfl) ?_
     refine W ?_
     refine At.reRow (v := vc) (xs' := takeD its (gE y.l (i : Int))) .here (takeD_same hk1 (posD_of hk1 hk2 c2) c3) ?_
     refine W ?_
     exact At.again3 (i + 1) (takeD its (gE y.l (i : Int))) (vc) ⟨by omega, by rw [hi2, List.take_succ_eq_append_getElem (by omega), List.foldl_append]; simp [gE, show i < y.l.length by omega], by have := takeD_len its (gE y.l (i : Int)); omega⟩ (by omega) (.cons rfl (.cons rfl .nil)) sl rfl
    have g1 : ∀ (va vl vb vc : Value), At w 101 [dlB bl Lv y, rdE iK Lv y.l] (fs (F60 va vl vb vc) 524287) ([rowE iK 43 vc (((([] ++ (its.drop 0).take (k - 0)) ++ [(gE y.l (i : Int))]) ++ ((((its.drop k).take (its.length - k)).drop 1).take (((its.drop k).take (its.length - k)).length - 1)))), rowE iK 43 Iv its, dsB b kp wp (some bl) Iv x]) ([]) (G 1 (mF 25 [24])) := fun va vl vb vc => by
     refine hnode _ _ _ _ [(24, [], 0, (mF 25 []))] (by kernel_rfl) kz ?_
     ·
      refine At.rowOne (v := vc) (M2) (fun h1v => ?_)
      refine At.st1 rfl rfl sz_40 (.t rfl) (.t rfl) h1v rfl (.n U2) ⟨kz, ?_⟩
      refine W ?_
      exact wk (g0 va vl vb vc)
    have g2 : ∀ (va vl vb : Value), At w 101 [dlB bl Lv y, rdE iK Lv y.l] (fs (F60 va vl vb .nilFunc) 499711) ([rowE iK 43 vb ((([] ++ (its.drop 0).take (k - 0)) ++ [(gE y.l (i : Int))])), rowE iK 43 Iv its, dsB b kp wp (some bl) Iv x]) ([]) (G 4 (mF 25 [21, 22, 23, 24])) := fun va vl vb => by
     refine hnode _ _ _ _ [(21, [tt 22, tt 23], 1, (mF 25 [24]))] (by kernel_rfl) kz ?_
     ·
      refine At.app (k := iK) rfl rfl rfl Tryz.underlying40 et_43 (.t rfl) (.t rfl) (fun _ => by (exact U0)) (RdIn.cutE (k := iK) (RdIn.cutE (k := iK) (wS M3) k its.length (by omega) (by omega)) 1 ((its.drop k).take (its.length - k)).length hrs (Nat.le_refl _)) (by (simp <;> omega)) (fun v1 => ⟨kz, ?_⟩)
      refine W ?_
      exact wk (g1 va vl vb v1)
    have g3 : ∀ (va vl : Value), At w 101 [dlB bl Lv y, rdE iK Lv y.l] (fs (F60 va vl .nilFunc .nilFunc) 497663) ([rowE iK 43 vl ([(gE y.l (i : Int))]), rowE iK 43 va (([] ++ (its.drop 0).take (k - 0))), rowE iK 43 Iv its, dsB b kp wp (some bl) Iv x]) ([]) (G 5 (mF 25 [19, 21, 22, 23, 24])) := fun va vl => by
     refine hnode _ _ _ _ [(19, [], 4, (mF 25 [21, 22, 23, 24]))] (by kernel_rfl) kz ?_
     ·
      refine At.app (k := iK) rfl rfl rfl Tryz.underlying40 et_43 (.t rfl) (.t rfl) (fun _ => by (exact U1)) (wS M2) (by (simp <;> omega)) (fun v1 => ⟨kz, ?_⟩)
      refine W ?_
      exact wk (g2 va vl v1)
    have g4 : ∀ (va : Value), At w 101 [dlB bl Lv y, rdE iK Lv y.l] (fs (F60 va .nilFunc .nilFunc .nilFunc) 496639) ([rowE iK 43 va (([] ++ (its.drop 0).take (k - 0))), rowE iK 43 Iv its, dsB b kp wp (some bl) Iv x]) ([]) (G 6 (mF 25 [18, 19, 21, 22, 23, 24])) := fun va => by
     refine hnode _ _ _ _ [(18, [], 5, (mF 25 [19, 21, 22, 23, 24]))] (by kernel_rfl) kz ?_
     ·
      refine At.lit (k := iK) rfl rfl rfl Tryz.underlying40 et_43 (.k rfl .nil) (.cons rfl .nil) rfl rfl rfl (fun v1 => ⟨kz, ?_⟩)
      refine W ?_
      exact wk (g3 va v1)
    have g5 : ∀ (vl : Value), At w 101 [dlB bl Lv y, rdE iK Lv y.l] (fs (F60 .nilFunc vl .nilFunc .nilFunc) 497631) ([rowE iK 43 vl ([(gE y.l (i : Int))]), rowE iK 43 Iv its, dsB b kp wp (some bl) Iv x]) ([]) (G 6 (mF 25 [7, 19, 21, 22, 23, 24])) := fun vl => by
     refine hnode _ _ _ _ [(7, [], 5, (mF 25 [19, 21, 22, 23, 24]))] (by kernel_rfl) kz ?_
     ·
      (refine At.nilRow iK 43 ?_; refine At.app (k := iK) rfl rfl rfl Tryz.underlying40 et_43 .c (.t rfl) (fun _ => by (exact U0)) (RdIn.cutE (k := iK) (wS M4) _ _ (by omega) (by omega)) (by (simp <;> omega)) (fun v1 => ⟨kz, ?_⟩))
      refine W ?_
      refine At.perm (List.Perm.swap _ _ _) ?_
      exact wk (g3 v1 vl)
    have g6 : ∀ (_ : True), At w 101 [dlB bl Lv y, rdE iK Lv y.l] (fs (F60 .nilFunc .nilFunc .nilFunc .nilFunc) 496607) ([rowE iK 43 Iv its, dsB b kp wp (some bl) Iv x]) ([]) (G 7 (mF 25 [7, 18, 19, 21, 22, 23, 24])) := fun _ => by
     refine hnode _ _ _ _ [(7, [], 6, (mF 25 [18, 19, 21, 22, 23, 24])), (18, [], 6, (mF 25 [7, 19, 21, 22, 23, 24]))] (by kernel_rfl) kz ?_
     refine ⟨?_, ?_⟩
     ·
      (refine At.nilRow iK 43 ?_; refine At.app (k := iK) rfl rfl rfl Tryz.underlying40 et_43 .c (.t rfl) (fun _ => by (exact U0)) (RdIn.cutE (k := iK) (wS M3) _ _ (by omega) (by omega)) (by (simp <;> omega)) (fun v1 => ⟨kz, ?_⟩))
      refine W ?_
      exact wk (g4 v1)
     ·
      refine At.lit (k := iK) rfl rfl rfl Tryz.underlying40 et_43 (.k rfl .nil) (.cons rfl .nil) rfl rfl rfl (fun v1 => ⟨kz, ?_⟩)
      refine W ?_
      exact wk (g5 v1)
    have g7 : ∀ (vl : Value), At w 101 [dlB bl Lv y, rdE iK Lv y.l] (fs (F60 .nilFunc vl .nilFunc .nilFunc) 497615) ([rowE iK 43 vl ([(gE y.l (i : Int))]), rowE iK 43 Iv its, dsB b kp wp (some bl) Iv x]) ([]) (G 8 (mF 25 [4, 6, 7, 19, 21, 22, 23, 24])) := fun vl => by
     refine hnode _ _ _ _ [(4, [tt 6], 6, (mF 25 [7, 19, 21, 22, 23, 24]))] (by kernel_rfl) kz ?_
     ·
      refine WD ?_
      refine sC rfl kz (R.sliceRd Tryz.underlying40 sz_43 (.t rfl) (wK M2) rfl (.t rfl) gO) ?_
      refine W ?_
      exact wk (g5 vl)
    have g8 : ∀ (_ : True), At w 101 [dlB bl Lv y, rdE iK Lv y.l] (fs (F60 .nilFunc .nilFunc .nilFunc .nilFunc) 496591) ([rowE iK 43 Iv its, dsB b kp wp (some bl) Iv x]) ([]) (G 9 (mF 25 [4, 6, 7, 18, 19, 21, 22, 23, 24])) := fun _ => by
     refine hnode _ _ _ _ [(4, [tt 6], 7, (mF 25 [7, 18, 19, 21, 22, 23, 24])), (18, [], 8, (mF 25 [4, 6, 7, 19, 21, 22, 23, 24]))] (by kernel_rfl) kz ?_
     refine ⟨?_, ?_⟩
     ·
      refine WD ?_
      refine sC rfl kz (R.sliceRd Tryz.underlying40 sz_43 (.t rfl) (wK M2) rfl (.t rfl) gO) ?_
      refine W ?_
      exact wk (g6 trivial)
     ·
      refine At.lit (k := iK) rfl rfl rfl Tryz.underlying40 et_43 (.k rfl .nil) (.cons rfl .nil) rfl rfl rfl (fun v1 => ⟨kz, ?_⟩)
      refine W ?_
      exact wk (g7 v1)
    have g9 : ∀ (va : Value), At w 101 [dlB bl Lv y, rdE iK Lv y.l] (fs (F60 va .nilFunc .nilFunc .nilFunc) 496127) ([rowE iK 43 va (([] ++ (its.drop 0).take (k - 0))), rowE iK 43 Iv its, dsB b kp wp (some bl) Iv x]) ([]) (G 12 (mF 25 [11, 12, 13, 14, 16, 17, 18, 19, 21, 22, 23, 24])) := fun va => by
     refine hnode _ _ _ _ [(11, [tt 12, tt 13, tt 14, tt 16, tt 17], 6, (mF 25 [18, 19, 21, 22, 23, 24]))] (by kernel_rfl) kz ?_
     ·
      refine WD ?_
      refine sC rfl kz (R.loadRdAgg (us := iK.enc _) Tryz.underlying43 rfl sz_43 (.t rfl) (rK M1) gO (fun hg => by exact Ek.getA (by omega))) ?_
      refine W ?_
      exact wk (g4 va)
    have g10 : ∀ (_ : True), At w 101 [dlB bl Lv y, rdE iK Lv y.l] (fs (F60 .nilFunc .nilFunc .nilFunc .nilFunc) 496095) ([rowE iK 43 Iv its, dsB b kp wp (some bl) Iv x]) ([]) (G 13 (mT 25 [0, 1, 2, 3, 4, 5, 6, 8, 9, 10, 15, 20])) := fun _ => by
     refine hnode _ _ _ _ [(7, [], 12, (mF 25 [11, 12, 13, 14, 16, 17, 18, 19, 21, 22, 23, 24])), (11, [tt 12, tt 13, tt 14, tt 16, tt 17], 7, (mF 25 [7, 18, 19, 21, 22, 23, 24]))] (by kernel_rfl) kz ?_
     refine ⟨?_, ?_⟩
     ·
      (refine At.nilRow iK 43 ?_; refine At.app (k := iK) rfl rfl rfl Tryz.underlying40 et_43 .c (.t rfl) (fun _ => by (exact U0)) (RdIn.cutE (k := iK) (wS M3) _ _ (by omega) (by omega)) (by (simp <;> omega)) (fun v1 => ⟨kz, ?_⟩))
      refine W ?_
      exact wk (g9 v1)
     ·
      refine WD ?_
      refine sC rfl kz (R.loadRdAgg (us := iK.enc _) Tryz.underlying43 rfl sz_43 (.t rfl) (rK M1) gO (fun hg => by exact Ek.getA (by omega))) ?_
      refine W ?_
      exact wk (g6 trivial)
    have g11 : ∀ (_ : True), At w 101 [dlB bl Lv y, rdE iK Lv y.l] (fs (F60 .nilFunc .nilFunc .nilFunc .nilFunc) 496079) ([rowE iK 43 Iv its, dsB b kp wp (some bl) Iv x]) ([]) (G 15 (mT 25 [0, 1, 2, 3, 5, 8, 9, 10, 15, 20])) := fun _ => by
     refine hnode _ _ _ _ [(4, [tt 6], 13, (mT 25 [0, 1, 2, 3, 4, 5, 6, 8, 9, 10, 15, 20])), (11, [tt 12, tt 13, tt 14, tt 16, tt 17], 9, (mF 25 [4, 6, 7, 18, 19, 21, 22, 23, 24]))] (by kernel_rfl) kz ?_
     refine ⟨?_, ?_⟩
     ·
      refine WD ?_
      refine sC rfl kz (R.sliceRd Tryz.underlying40 sz_43 (.t rfl) (wK M2) rfl (.t rfl) gO) ?_
      refine W ?_
      exact wk (g10 trivial)
     ·
      refine WD ?_
      refine sC rfl kz (R.loadRdAgg (us := iK.enc _) Tryz.underlying43 rfl sz_43 (.t rfl) (rK M1) gO (fun hg => by exact Ek.getA (by omega))) ?_
      refine W ?_
      exact wk (g8 trivial)
    refine W ?_
    exact wk (g11 trivial)
   ·
    refine W ?_
    let F166 : Value → Value → Value → Value → Fr := fun va vl vb vc => [(77, pt b 0), (78, pt b 0), (80, pt b 14), (82, iv (k : Int)), (83, true, cutV Iv 3 0 k), (84, true, va), (85, pt b 0), (87, pt b 10), (92, iv (i : Int)), (94, true, .agg (iK.enc (gE y.l (i : Int))).toArray), (95, true, vl), (96, true, vb), (97, true, cutV Iv 3 k its.length), (98, true, vc), (100, pt b 14), (0, pt b 0), (2, iv (i : Int)), (3, iv (k : Int)), (4, true, cutV Iv 3 k its.length)]
    refine At.dag [tt 0, tt 1, tt 2, tt 3, tt 5, tt 8, tt 9, tt 10, tt 15, tt 20] 15 (mT 25 [0, 1, 2, 3, 5, 8, 9, 10, 15, 20]) ([dlB bl Lv y, rdE iK Lv y.l, rowE iK 43 Iv its]) (keepOf sl) (by kernel_rfl) (by kernel_rfl) (fun G hnode hdone => ?_)
    have g0 : ∀ (va vl vb vc : Value), At w 101 [dlB bl Lv y, rdE iK Lv y.l] (fs (F166 va vl vb vc) 524287) ([rowE iK 43 vc (((([] ++ (its.drop 0).take (k - 0)) ++ [(gE y.l (i : Int))]) ++ ((its.drop k).take (its.length - k)))), rowE iK 43 Iv its, dsB b kp wp (some bl) vc x]) ([]) (G 0 (mF 25 [])) := fun va vl vb vc => by
     refine hdone _ _ _ (by kernel_rfl) ?_
     refine W ?_
     refine At.reRow (v := vc) (xs' := takeD its (gE y.l (i : Int))) .here (takeD_other hk1 (posD_of hk1 hk2 c2) c3) ?_
     refine W ?_
     exact At.again3 (i + 1) (takeD its (gE y.l (i : Int))) (vc) ⟨by omega, by rw [hi2, List.take_succ_eq_append_getElem (by omega), List.foldl_append]; simp [gE, show i < y.l.length by omega], by have := takeD_len its (gE y.l (i : Int)); omega⟩ (by omega) (.cons rfl (.cons rfl .nil)) sl rfl
    have g1 : ∀ (va vl vb vc : Value), At w 101 [dlB bl Lv y, rdE iK Lv y.l] (fs (F166 va vl vb vc) 524287) ([rowE iK 43 vc (((([] ++ (its.drop 0).take (k - 0)) ++ [(gE y.l (i : Int))]) ++ ((its.drop k).take (its.length - k)))), rowE iK 43 Iv its, dsB b kp wp (some bl) Iv x]) ([]) (G 1 (mF 25 [24])) := fun va vl vb vc => by
     refine hnode _ _ _ _ [(24, [], 0, (mF 25 []))] (by kernel_rfl) kz ?_
     ·
      refine At.rowOne (v := vc) (M2) (fun h1v => ?_)
      refine At.st1 rfl rfl sz_40 (.t rfl) (.t rfl) h1v rfl (.n U2) ⟨kz, ?_⟩
      refine W ?_
      exact wk (g0 va vl vb vc)
    have g2 : ∀ (va vl vb : Value), At w 101 [dlB bl Lv y, rdE iK Lv y.l] (fs (F166 va vl vb .nilFunc) 499711) ([rowE iK 43 vb ((([] ++ (its.drop 0).take (k - 0)) ++ [(gE y.l (i : Int))])), rowE iK 43 Iv its, dsB b kp wp (some bl) Iv x]) ([]) (G 4 (mF 25 [21, 22, 23, 24])) := fun va vl vb => by
     refine hnode _ _ _ _ [(21, [tt 22, tt 23], 1, (mF 25 [24]))] (by kernel_rfl) kz ?_
     ·
      refine At.app (k := iK) rfl rfl rfl Tryz.underlying40 et_43 (.t rfl) (.t rfl) (fun _ => by (exact U0)) (RdIn.cutE (k := iK) (wS M3) k its.length (by omega) (by omega)) (by (simp <;> omega)) (fun v1 => ⟨kz, ?_⟩)
      refine W ?_
      exact wk (g1 va vl vb v1)
    have g3 : ∀ (va vl : Value), At w 101 [dlB bl Lv y, rdE iK Lv y.l] (fs (F166 va vl .nilFunc .nilFunc) 497663) ([rowE iK 43 vl ([(gE y.l (i : Int))]), rowE iK 43 va (([] ++ (its.drop 0).take (k - 0))), rowE iK 43 Iv its, dsB b kp wp (some bl) Iv x]) ([]) (G 5 (mF 25 [19, 21, 22, 23, 24])) := fun va vl => by
     refine hnode _ _ _ _ [(19, [], 4, (mF 25 [21, 22, 23, 24]))] (by kernel_rfl) kz ?_
     ·
      refine At.app (k := iK) rfl rfl rfl Tryz.underlying40 et_43 (.t rfl) (.t rfl) (fun _ => by (exact U1)) (wS M2) (by (simp <;> omega)) (fun v1 => ⟨kz, ?_⟩)
      refine W ?_
      exact wk (g2 va vl v1)
    have g4 : ∀ (va : Value), At w 101 [dlB bl Lv y, rdE iK Lv y.l] (fs (F166 va .nilFunc .nilFunc .nilFunc) 496639) ([rowE iK 43 va (([] ++ (its.drop 0).take (k - 0))), rowE iK 43 Iv its, dsB b kp wp (some bl) Iv x]) ([]) (G 6 (mF 25 [18, 19, 21, 22, 23, 24])) := fun va => by
     refine hnode _ _ _ _ [(18, [], 5, (mF 25 [19, 21, 22, 23, 24]))] (by kernel_rfl) kz ?_
     ·
      refine At.lit (k := iK) rfl rfl rfl Tryz.underlying40 et_43 (.k rfl .nil) (.cons rfl .nil) rfl rfl rfl (fun v1 => ⟨kz, ?_⟩)
      refine W ?_
      exact wk (g3 va v1)
    have g5 : ∀ (vl : Value), At w 101 [dlB bl Lv y, rdE iK Lv y.l] (fs (F166 .nilFunc vl .nilFunc .nilFunc) 497631) ([rowE iK 43 vl ([(gE y.l (i : Int))]), rowE iK 43 Iv its, dsB b kp wp (some bl) Iv x]) ([]) (G 6 (mF 25 [7, 19, 21, 22, 23, 24])) := fun vl => by
     refine hnode _ _ _ _ [(7, [], 5, (mF 25 [19, 21, 22, 23, 24]))] (by kernel_rfl) kz ?_
     ·
      (refine At.nilRow iK 43 ?_; refine At.app (k := iK) rfl rfl rfl Tryz.underlying40 et_43 .c (.t rfl) (fun _ => by (exact U0)) (RdIn.cutE (k := iK) (wS M4) _ _ (by omega) (by omega)) (by (simp <;> omega)) (fun v1 => ⟨kz, ?_⟩))
      refine W ?_
      refine At.perm (List.Perm.swap _ _ _) ?_
      exact wk (g3 v1 vl)
    have g6 : ∀ (_ : True), At w 101 [dlB bl Lv y, rdE iK Lv y.l] (fs (F166 .nilFunc .nilFunc .nilFunc .nilFunc) 496607) ([rowE iK 43 Iv its, dsB b kp wp (some bl) Iv x]) ([]) (G 7 (mF 25 [7, 18, 19, 21, 22, 23, 24])) := fun _ => by
     refine hnode _ _ _ _ [(7, [], 6, (mF 25 [18, 19, 21, 22, 23, 24])), (18, [], 6, (mF 25 [7, 19, 21, 22, 23, 24]))] (by kernel_rfl) kz ?_
     refine ⟨?_, ?_⟩
     ·
      (refine At.nilRow iK 43 ?_; refine At.app (k := iK) rfl rfl rfl Tryz.underlying40 et_43 .c (.t rfl) (fun _ => by (exact U0)) (RdIn.cutE (k := iK) (wS M3) _ _ (by omega) (by omega)) (by (simp <;> omega)) (fun v1 => ⟨kz, ?_⟩))
      refine W ?_
      exact wk (g4 v1)
     ·
      refine At.lit (k := iK) rfl rfl rfl Tryz.underlying40 et_43 (.k rfl .nil) (.cons rfl .nil) rfl rfl rfl (fun v1 => ⟨kz, ?_⟩)
      refine W ?_
      exact wk (g5 v1)
    have g7 : ∀ (vl : Value), At w 101 [dlB bl Lv y, rdE iK Lv y.l] (fs (F166 .nilFunc vl .nilFunc .nilFunc) 497615) ([rowE iK 43 vl ([(gE y.l (i : Int))]), rowE iK 43 Iv its, dsB b kp wp (some bl) Iv x]) ([]) (G 8 (mF 25 [4, 6, 7, 19, 21, 22, 23, 24])) := fun vl => by
     refine hnode _ _ _ _ [(4, [tt 6], 6, (mF 25 [7, 19, 21, 22, 23, 24]))] (by kernel_rfl) kz ?_
     ·
      refine WD ?_
      refine sC rfl kz (R.sliceRd Tryz.underlying40 sz_43 (.t rfl) (wK M2) rfl (.t rfl) gO) ?_
      refine W ?_
      exact wk (g5 vl)
    have g8 : ∀ (_ : True), At w 101 [dlB bl Lv y, rdE iK Lv y.l] (fs (F166 .nilFunc .nilFunc .nilFunc .nilFunc) 496591) ([rowE iK 43 Iv its, dsB b kp wp (some bl) Iv x]) ([]) (G 9 (mF 25 [4, 6, 7, 18, 19, 21, 22, 23, 24])) := fun _ => by
     refine hnode _ _ _ _ [(4, [tt 6], 7, (mF 25 [7, 18, 19, 21, 22, 23, 24])), (18, [], 8, (mF 25 [4, 6, 7, 19, 21, 22, 23, 24]))] (by kernel_rfl) kz ?_
     refine ⟨?_, ?_⟩
     ·
      refine WD ?_
      refine sC rfl kz (R.sliceRd Tryz.underlying40 sz_43 (.t rfl) (wK M2) rfl (.t rfl) gO) ?_
      refine W ?_
      exact wk (g6 trivial)
     ·
      refine At.lit (k := iK) rfl rfl rfl Tryz.underlying40 et_43 (.k rfl .nil) (.cons rfl .nil) rfl rfl rfl (fun v1 => ⟨kz, ?_⟩)
      refine W ?_
      exact wk (g7 v1)
    have g9 : ∀ (va : Value), At w 101 [dlB bl Lv y, rdE iK Lv y.l] (fs (F166 va .nilFunc .nilFunc .nilFunc) 496127) ([rowE iK 43 va (([] ++ (its.drop 0).take (k - 0))), rowE iK 43 Iv its, dsB b kp wp (some bl) Iv x]) ([]) (G 12 (mF 25 [11, 12, 13, 14, 16, 17, 18, 19, 21, 22, 23, 24])) := fun va => by
     refine hnode _ _ _ _ [(11, [tt 12, tt 13, tt 14, tt 16, tt 17], 6, (mF 25 [18, 19, 21, 22, 23, 24]))] (by kernel_rfl) kz ?_
     ·
      refine WD ?_
      refine sC rfl kz (R.loadRdAgg (us := iK.enc _) Tryz.underlying43 rfl sz_43 (.t rfl) (rK M1) gO (fun hg => by exact Ek.getA (by omega))) ?_
      refine W ?_
      exact wk (g4 va)
    have g10 : ∀ (_ : True), At w 101 [dlB bl Lv y, rdE iK Lv y.l] (fs (F166 .nilFunc .nilFunc .nilFunc .nilFunc) 496095) ([rowE iK 43 Iv its, dsB b kp wp (some bl) Iv x]) ([]) (G 13 (mT 25 [0, 1, 2, 3, 4, 5, 6, 8, 9, 10, 15, 20])) := fun _ => by
     refine hnode _ _ _ _ [(7, [], 12, (mF 25 [11, 12, 13, 14, 16, 17, 18, 19, 21, 22, 23, 24])), (11, [tt 12, tt 13, tt 14, tt 16, tt 17], 7, (mF 25 [7, 18, 19, 21, 22, 23, 24]))] (by kernel_rfl) kz ?_
     refine ⟨?_, ?_⟩
     ·
      (refine At.nilRow iK 43 ?_; refine At.app (k := iK) rfl rfl rfl Tryz.underlying40 et_43 .c (.t rfl) (fun _ => by (exact U0)) (RdIn.cutE (k := iK) (wS M3) _ _ (by omega) (by omega)) (by (simp <;> omega)) (fun v1 => ⟨kz, ?_⟩))
      refine W ?_
      exact wk (g9 v1)
     ·
      refine WD ?_
      refine sC rfl kz (R.loadRdAgg (us := iK.enc _) Tryz.underlying43 rfl sz_43 (.t rfl) (rK M1) gO (fun hg => by exact Ek.getA (by omega))) ?_
      refine W ?_
      exact wk (g6 trivial)
    have g11 : ∀ (_ : True), At w 101 [dlB bl Lv y, rdE iK Lv y.l] (fs (F166 .nilFunc .nilFunc .nilFunc .nilFunc) 496079) ([rowE iK 43 Iv its, dsB b kp wp (some bl) Iv x]) ([]) (G 15 (mT 25 [0, 1, 2, 3, 5, 8, 9, 10, 15, 20])) := fun _ => by
     refine hnode _ _ _ _ [(4, [tt 6], 13, (mT 25 [0, 1, 2, 3, 4, 5, 6, 8, 9, 10, 15, 20])), (11, [tt 12, tt 13, tt 14, tt 16, tt 17], 9, (mF 25 [4, 6, 7, 18, 19, 21, 22, 23, 24]))] (by kernel_rfl) kz ?_
     refine ⟨?_, ?_⟩
     ·
      refine WD ?_
      refine sC rfl kz (R.sliceRd Tryz.underlying40 sz_43 (.t rfl) (wK M2) rfl (.t rfl) gO) ?_
      refine W ?_
      exact wk (g10 trivial)
     ·
      refine WD ?_
      refine sC rfl kz (R.loadRdAgg (us := iK.enc _) Tryz.underlying43 rfl sz_43 (.t rfl) (rK M1) gO (fun hg => by exact Ek.getA (by omega))) ?_
      refine W ?_
      exact wk (g8 trivial)
    refine W ?_
    exact wk (g11 trivial)
 ·
  refine W ?_
  refine At.reRow (v := Iv) (xs' := y.l.foldl takeD its0) .here (by rw [hi2, List.take_of_length_le (by omega)]) ?_
  exact At.finalX0 (N' := [rowE iK 43 Iv (y.l.foldl takeD its0), dsB b kp wp (some bl) Iv x]) hds how rfl (List.Sublist.refl _) (⟨Iv, rfl, rfl⟩) _ (.inr rfl)
end Go.Proofs.YtbolanigdkgbdaaGreat
namespace Go.Proofs.YtbolanigdkgbdaaGreat
open Go Go.RowKit
set_option maxRecDepth 10000
set_option linter.unusedVariables false
set_option linter.unnecessarySimpa false
set_option maxHeartbeats 1000000
theorem bt_160 : buildTab Tryz.prog 160 = some (#[.int .i64 0, .int .i64 0, .int .i64 0, .int .i64 0, .int .i64 0, .int .i64 0, .int .i64 0, .int .i64 0, .pointer none, .pointer none, .pointer none, .int .i64 0, .int .i64 0, .int .i64 0, .slice none 0 0], [(0, 4), (4, 1), (5, 1), (6, 1), (7, 1), (8, 1), (9, 1), (10, 1), (11, 1), (12, 1), (13, 1), (14, 1)]) := by kernel_rfl
theorem fo_160_0 : fieldOff? Tryz.prog 160 0 = some 0 := by kernel_rfl
theorem fo_160_1 : fieldOff? Tryz.prog 160 1 = some 4 := by kernel_rfl
theorem fo_160_10 : fieldOff? Tryz.prog 160 10 = some 13 := by kernel_rfl
theorem fo_160_2 : fieldOff? Tryz.prog 160 2 = some 5 := by kernel_rfl
theorem fo_160_3 : fieldOff? Tryz.prog 160 3 = some 6 := by kernel_rfl
theorem fo_160_4 : fieldOff? Tryz.prog 160 4 = some 7 := by kernel_rfl
theorem fo_160_5 : fieldOff? Tryz.prog 160 5 = some 8 := by kernel_rfl
theorem fo_160_6 : fieldOff? Tryz.prog 160 6 = some 9 := by kernel_rfl
theorem fo_160_8 : fieldOff? Tryz.prog 160 8 = some 11 := by kernel_rfl
theorem fo_160_9 : fieldOff? Tryz.prog 160 9 = some 12 := by kernel_rfl
theorem sz_141 : (Tryz.prog.info? 141).map (·.size) = some 1 := by kernel_rfl
theorem keysDc {b ba n : Nat} {wv : Value} {k k' : Dc} {x y x' y' : Rr} : keys [dcB b k, raB ba wv x, raW wv n y] = keys [dcB b k', raB ba wv x', raW wv n y'] := rfl
theorem Aprt.two [Df] {w0 : World} {S N H A : Hp} {b : Nat} {o : Obj} {v : Value} {E : TypeId} {sz m : Nat} {xs : List Value} (h : (A ++ [Ent.blk b o, Ent.row v E sz m xs]).Sublist (N ++ H)) : Aprt w0 S N H [.blk b o, .rd v sz m xs] A := fun w hw k hk hA => by
  have h1 : (A ++ [Ent.row v E sz m xs]).Sublist (N ++ H) := (List.Sublist.append_left (List.sublist_cons_self _ _) A).trans h
  have h2 : (A ++ [Ent.blk b o]).Sublist (N ++ H) := (List.Sublist.append_left (by exact List.Sublist.cons_cons _ (List.nil_sublist _)) A).trans h
  have hk' : k ∈ keys [Ent.blk b o] ∨ k ∈ keys [Ent.rd v sz m xs] := by
    rw [show [Ent.blk b o, Ent.rd v sz m xs] = [Ent.blk b o] ++ [Ent.rd v sz m xs] from rfl, keys_append, List.mem_append] at hk; exact hk
  rcases hk' with hk' | hk'
  · exact Aprt.sub' h2 w hw k hk' hA
  · exact Aprt.row (.inl h1) w hw k hk' hA
theorem ds_New {a b c d t seq lo hi : Int} : Fn Tryz.prog 102 [.agg #[.int .i64 a, .int .i64 b, .int .i64 c, .int .i64 d], .int .i64 t, .int .i64 seq, .int .i64 lo, .int .i64 hi] ([]) ([]) (fun v N H => ∃ bs kp, v = .pointer (some ⟨bs, 0, none⟩) ∧ N = [dsB bs kp none none (.slice none 0 0) (⟨a, b, c, d, t, seq, lo, hi, 10, 0, 0⟩ : Ds), dcB kp (⟨a, b, c, d, t, seq, 1, 0, 0, 0⟩ : Dc)] ∧ H = []) := by
 refine Fn.enter Tryz.func102 (by kernel_rfl) rfl (n := 22) rfl rfl (fun w => ?_)
 refine W ?_
 refine At.box rfl rfl rfl (.t rfl) (fun b1 hb1 => ⟨.all, ?_⟩)
 refine W ?_
 refine At.drawK [tt 0, tt 1, tt 2, tt 3, tt 4, tt 5, tt 6, tt 7, ff 8, tt 9, ff 10, tt 11] (by kernel_rfl) (by kernel_rfl) ?_
 refine W ?_
 refine cP rfl rfl rfl (.k rfl (.k rfl (.k rfl .nil))) rfl (dc_New (a := a) (b := b) (c := c) (d := d) (t := t) (seq := seq)) (fun _ h => nomatch h) (fun v N1 H1 hR => ?_); obtain ⟨kp, rfl, rfl, rfl⟩ := hR; refine ⟨rfl, kz, ?_⟩
 refine sC rfl kz (R.build bt_160 (.k rfl (.k rfl (.k rfl (.k rfl (.k rfl (.k rfl (.kc .nil))))))) (.cons rfl (.cons rfl (.cons rfl (.cons rfl (.cons rfl (.cons rfl (.cons rfl .nil))))))) rfl) ?_
 refine At.box rfl rfl rfl (.t rfl) (fun b2 hb2 => ⟨kz, ?_⟩)
 refine W ?_
 exact At.final (N' := [dsB b2 kp none none (.slice none 0 0) (⟨a, b, c, d, t, seq, lo, hi, 10, 0, 0⟩ : Ds), dcB kp (⟨a, b, c, d, t, seq, 1, 0, 0, 0⟩ : Dc)]) rfl (.t rfl) sl (⟨b2, kp, rfl, rfl, rfl⟩)
theorem ds_chunk {b kp : Nat} {wp lp : Option Nat} {Iv : Value} {x : Ds} {k : Dc} {at_ : Int} : FnX Tryz.prog 124 [.pointer (some ⟨b, 0, none⟩), .int .i64 at_] ([dcB kp k]) ([dsB b kp wp lp Iv x]) (fun v N => ∃ bl, v = .tuple #[] ∧ N = [dsB b kp wp (some bl) Iv (⟨x.th, x.cap, x.wd, x.ver, x.t, x.seq, x.lo, x.hi, 1, at_, x.n⟩ : Ds), dlB bl (.slice none 0 0) (⟨x.th, x.cap, x.wd, x.ver, at_, x.lo, x.hi, k.version, 1, 0, 0, 0, 0, 0, []⟩ : Dl), rowE iK 43 (.slice none 0 0) []]) := by
 refine FnX.enter Tryz.func124 (by kernel_rfl) rfl (n := 35) rfl rfl (fun w df hds how => ?_)
 let F2 : Nat → Fr := fun bl => [(4, pt b 0), (5, pt b 0), (6, pt b 0), (7, iv at_), (10, pt b 0), (11, true, .agg #[.int .i64 x.th, .int .i64 x.cap, .int .i64 x.wd, .int .i64 x.ver]), (12, iv at_), (15, pt b 6), (16, iv x.lo), (19, pt b 7), (20, iv x.hi), (23, pt b 8), (24, pt kp 0), (27, iv k.version), (28, pt bl 0), (30, pt b 12), (32, pt b 11), (34, pt b 10), (0, pt b 0)]
 refine At.dag [tt 0, tt 1, tt 2, tt 3, tt 4, tt 5, tt 6, tt 8, tt 9, tt 10, tt 11, tt 13, tt 14, tt 15, tt 17, tt 18, tt 19] 17 (mF 34 [7, 12, 16, 20, 21, 22, 23, 24, 25, 26, 27, 28, 29, 30, 31, 32, 33]) ([dcB kp k]) (keepOf sl) (by kernel_rfl) (by kernel_rfl) (fun G hnode hdone => ?_)
 have g0 : ∀ (bl : Nat), At w 35 [dcB kp k] (fs (F2 bl) 524287) ([dlB bl (.slice none 0 0) (⟨x.th, x.cap, x.wd, x.ver, at_, x.lo, x.hi, k.version, 1, 0, 0, 0, 0, 0, []⟩ : Dl), rowE iK 43 (.slice none 0 0) [], dsB b kp wp (some bl) Iv (⟨x.th, x.cap, x.wd, x.ver, x.t, x.seq, x.lo, x.hi, 1, at_, x.n⟩ : Ds)]) ([]) (G 0 (mF 34 [])) := fun bl => by
  refine hdone _ _ _ (by kernel_rfl) ?_
  refine At.perm (N' := [dsB b kp wp (some bl) Iv (⟨x.th, x.cap, x.wd, x.ver, x.t, x.seq, x.lo, x.hi, 1, at_, x.n⟩ : Ds), dlB bl (.slice none 0 0) (⟨x.th, x.cap, x.wd, x.ver, at_, x.lo, x.hi, k.version, 1, 0, 0, 0, 0, 0, []⟩ : Dl), rowE iK 43 (.slice none 0 0) []]) (List.perm_append_comm (l₁ := [_, _]) (l₂ := [_])) ?_
  exact At.finalX0 (N' := [dsB b kp wp (some bl) Iv (⟨x.th, x.cap, x.wd, x.ver, x.t, x.seq, x.lo, x.hi, 1, at_, x.n⟩ : Ds), dlB bl (.slice none 0 0) (⟨x.th, x.cap, x.wd, x.ver, at_, x.lo, x.hi, k.version, 1, 0, 0, 0, 0, 0, []⟩ : Dl), rowE iK 43 (.slice none 0 0) []]) hds how rfl (List.Sublist.refl _) (⟨bl, rfl, rfl⟩) _ (.inr rfl)
 have g1 : ∀ (bl : Nat), At w 35 [dcB kp k] (fs (F2 bl) 524287) ([dlB bl (.slice none 0 0) (⟨x.th, x.cap, x.wd, x.ver, at_, x.lo, x.hi, k.version, 1, 0, 0, 0, 0, 0, []⟩ : Dl), rowE iK 43 (.slice none 0 0) [], dsB b kp wp lp Iv (⟨x.th, x.cap, x.wd, x.ver, x.t, x.seq, x.lo, x.hi, 1, at_, x.n⟩ : Ds)]) ([]) (G 1 (mF 34 [33])) := fun bl => by
  refine hnode _ _ _ _ [(33, [], 0, (mF 34 []))] (by kernel_rfl) kz ?_
  ·
   refine At.st1 rfl rfl sz_52 (.t rfl) (.t rfl) rfl rfl (.n U2) ⟨kz, ?_⟩
   refine W ?_
   exact wk (g0 bl)
 have g2 : ∀ (bl : Nat), At w 35 [dcB kp k] (fs (F2 bl) 393215) ([dlB bl (.slice none 0 0) (⟨x.th, x.cap, x.wd, x.ver, at_, x.lo, x.hi, k.version, 1, 0, 0, 0, 0, 0, []⟩ : Dl), rowE iK 43 (.slice none 0 0) [], dsB b kp wp lp Iv (⟨x.th, x.cap, x.wd, x.ver, x.t, x.seq, x.lo, x.hi, x.line, at_, x.n⟩ : Ds)]) ([]) (G 4 (mF 34 [30, 31, 32, 33])) := fun bl => by
  refine hnode _ _ _ _ [(30, [tt 31, tt 32], 1, (mF 34 [33]))] (by kernel_rfl) kz ?_
  ·
   refine At.st1 rfl rfl sz_3 (.t rfl) .c rfl rfl (.n U2) ⟨kz, ?_⟩
   refine W ?_
   exact wk (g1 bl)
 have g3 : ∀ (bl : Nat), At w 35 [dcB kp k] (fs (F2 bl) 327679) ([dlB bl (.slice none 0 0) (⟨x.th, x.cap, x.wd, x.ver, at_, x.lo, x.hi, k.version, 1, 0, 0, 0, 0, 0, []⟩ : Dl), rowE iK 43 (.slice none 0 0) [], dsB b kp wp lp Iv x]) ([]) (G 7 (mF 34 [27, 28, 29, 30, 31, 32, 33])) := fun bl => by
  refine hnode _ _ _ _ [(27, [tt 28, tt 29], 4, (mF 34 [30, 31, 32, 33]))] (by kernel_rfl) kz ?_
  ·
   refine At.st1 rfl rfl sz_3 (.t rfl) (.t rfl) rfl rfl (.n U2) ⟨kz, ?_⟩
   refine W ?_
   exact wk (g2 bl)
 have g4 : ∀ (_ : True), At w 35 [dcB kp k] (fs (F2 0) 278527) ([dsB b kp wp lp Iv x]) ([]) (G 10 (mF 34 [24, 25, 26, 27, 28, 29, 30, 31, 32, 33])) := fun _ => by
  refine hnode _ _ _ _ [(24, [tt 25, tt 26], 7, (mF 34 [27, 28, 29, 30, 31, 32, 33]))] (by kernel_rfl) kz ?_
  ·
   refine cP rfl rfl rfl (.k rfl (.k rfl (.k rfl (.k rfl (.k rfl .nil))))) rfl (dl_New (a := x.th) (b := x.cap) (c := x.wd) (d := x.ver) (chunk := at_) (lo := x.lo) (hi := x.hi) (most := k.version)) (fun _ h => nomatch h) (fun v N1 H1 hR => ?_); obtain ⟨bl, rfl, rfl, rfl⟩ := hR; refine ⟨rfl, kz, ?_⟩
   refine W ?_
   exact wk (g3 bl)
 have g5 : ∀ (_ : True), At w 35 [dcB kp k] (fs (F2 0) 277503) ([dsB b kp wp lp Iv x]) ([]) (G 11 (mF 34 [16, 24, 25, 26, 27, 28, 29, 30, 31, 32, 33])) := fun _ => by
  refine hnode _ _ _ _ [(16, [], 10, (mF 34 [24, 25, 26, 27, 28, 29, 30, 31, 32, 33]))] (by kernel_rfl) kz ?_
  ·
   refine WD ?_
   exact wk (g4 trivial)
 have g6 : ∀ (_ : True), At w 35 [dcB kp k] (fs (F2 0) 278271) ([dsB b kp wp lp Iv x]) ([]) (G 11 (mF 34 [12, 24, 25, 26, 27, 28, 29, 30, 31, 32, 33])) := fun _ => by
  refine hnode _ _ _ _ [(12, [], 10, (mF 34 [24, 25, 26, 27, 28, 29, 30, 31, 32, 33]))] (by kernel_rfl) kz ?_
  ·
   refine WD ?_
   exact wk (g4 trivial)
 have g7 : ∀ (_ : True), At w 35 [dcB kp k] (fs (F2 0) 278495) ([dsB b kp wp lp Iv x]) ([]) (G 11 (mF 34 [7, 24, 25, 26, 27, 28, 29, 30, 31, 32, 33])) := fun _ => by
  refine hnode _ _ _ _ [(7, [], 10, (mF 34 [24, 25, 26, 27, 28, 29, 30, 31, 32, 33]))] (by kernel_rfl) kz ?_
  ·
   refine WD ?_
   exact wk (g4 trivial)
 have g8 : ∀ (_ : True), At w 35 [dcB kp k] (fs (F2 0) 277247) ([dsB b kp wp lp Iv x]) ([]) (G 12 (mF 34 [12, 16, 24, 25, 26, 27, 28, 29, 30, 31, 32, 33])) := fun _ => by
  refine hnode _ _ _ _ [(12, [], 11, (mF 34 [16, 24, 25, 26, 27, 28, 29, 30, 31, 32, 33])), (16, [], 11, (mF 34 [12, 24, 25, 26, 27, 28, 29, 30, 31, 32, 33]))] (by kernel_rfl) kz ?_
  refine ⟨?_, ?_⟩
  ·
   refine WD ?_
   exact wk (g5 trivial)
  ·
   refine WD ?_
   exact wk (g6 trivial)
 have g9 : ∀ (_ : True), At w 35 [dcB kp k] (fs (F2 0) 277471) ([dsB b kp wp lp Iv x]) ([]) (G 12 (mF 34 [7, 16, 24, 25, 26, 27, 28, 29, 30, 31, 32, 33])) := fun _ => by
  refine hnode _ _ _ _ [(7, [], 11, (mF 34 [16, 24, 25, 26, 27, 28, 29, 30, 31, 32, 33])), (16, [], 11, (mF 34 [7, 24, 25, 26, 27, 28, 29, 30, 31, 32, 33]))] (by kernel_rfl) kz ?_
  refine ⟨?_, ?_⟩
  ·
   refine WD ?_
   exact wk (g5 trivial)
  ·
   refine WD ?_
   exact wk (g7 trivial)
 have g10 : ∀ (_ : True), At w 35 [dcB kp k] (fs (F2 0) 278239) ([dsB b kp wp lp Iv x]) ([]) (G 12 (mF 34 [7, 12, 24, 25, 26, 27, 28, 29, 30, 31, 32, 33])) := fun _ => by
  refine hnode _ _ _ _ [(7, [], 11, (mF 34 [12, 24, 25, 26, 27, 28, 29, 30, 31, 32, 33])), (12, [], 11, (mF 34 [7, 24, 25, 26, 27, 28, 29, 30, 31, 32, 33]))] (by kernel_rfl) kz ?_
  refine ⟨?_, ?_⟩
  ·
   refine WD ?_
   exact wk (g6 trivial)
  ·
   refine WD ?_
   exact wk (g7 trivial)
 have g11 : ∀ (_ : True), At w 35 [dcB kp k] (fs (F2 0) 277215) ([dsB b kp wp lp Iv x]) ([]) (G 13 (mF 34 [7, 12, 16, 24, 25, 26, 27, 28, 29, 30, 31, 32, 33])) := fun _ => by
  refine hnode _ _ _ _ [(7, [], 12, (mF 34 [12, 16, 24, 25, 26, 27, 28, 29, 30, 31, 32, 33])), (12, [], 12, (mF 34 [7, 16, 24, 25, 26, 27, 28, 29, 30, 31, 32, 33])), (16, [], 12, (mF 34 [7, 12, 24, 25, 26, 27, 28, 29, 30, 31, 32, 33]))] (by kernel_rfl) kz ?_
  refine ⟨?_, ?_, ?_⟩
  ·
   refine WD ?_
   exact wk (g8 trivial)
  ·
   refine WD ?_
   exact wk (g9 trivial)
  ·
   refine WD ?_
   exact wk (g10 trivial)
 have g12 : ∀ (_ : True), At w 35 [dcB kp k] (fs (F2 0) 266239) ([dsB b kp wp lp Iv x]) ([]) (G 14 (mF 34 [20, 21, 22, 23, 24, 25, 26, 27, 28, 29, 30, 31, 32, 33])) := fun _ => by
  refine hnode _ _ _ _ [(20, [tt 21, tt 22, tt 23], 10, (mF 34 [24, 25, 26, 27, 28, 29, 30, 31, 32, 33]))] (by kernel_rfl) kz ?_
  ·
   refine WD ?_
   exact wk (g4 trivial)
 have g13 : ∀ (_ : True), At w 35 [dcB kp k] (fs (F2 0) 265215) ([dsB b kp wp lp Iv x]) ([]) (G 15 (mF 34 [16, 20, 21, 22, 23, 24, 25, 26, 27, 28, 29, 30, 31, 32, 33])) := fun _ => by
  refine hnode _ _ _ _ [(16, [], 14, (mF 34 [20, 21, 22, 23, 24, 25, 26, 27, 28, 29, 30, 31, 32, 33])), (20, [tt 21, tt 22, tt 23], 11, (mF 34 [16, 24, 25, 26, 27, 28, 29, 30, 31, 32, 33]))] (by kernel_rfl) kz ?_
  refine ⟨?_, ?_⟩
  ·
   refine WD ?_
   exact wk (g12 trivial)
  ·
   refine WD ?_
   exact wk (g5 trivial)
 have g14 : ∀ (_ : True), At w 35 [dcB kp k] (fs (F2 0) 265983) ([dsB b kp wp lp Iv x]) ([]) (G 15 (mF 34 [12, 20, 21, 22, 23, 24, 25, 26, 27, 28, 29, 30, 31, 32, 33])) := fun _ => by
  refine hnode _ _ _ _ [(12, [], 14, (mF 34 [20, 21, 22, 23, 24, 25, 26, 27, 28, 29, 30, 31, 32, 33])), (20, [tt 21, tt 22, tt 23], 11, (mF 34 [12, 24, 25, 26, 27, 28, 29, 30, 31, 32, 33]))] (by kernel_rfl) kz ?_
  refine ⟨?_, ?_⟩
  ·
   refine WD ?_
   exact wk (g12 trivial)
  ·
   refine WD ?_
   exact wk (g6 trivial)
 have g15 : ∀ (_ : True), At w 35 [dcB kp k] (fs (F2 0) 266207) ([dsB b kp wp lp Iv x]) ([]) (G 15 (mF 34 [7, 20, 21, 22, 23, 24, 25, 26, 27, 28, 29, 30, 31, 32, 33])) := fun _ => by
  refine hnode _ _ _ _ [(7, [], 14, (mF 34 [20, 21, 22, 23, 24, 25, 26, 27, 28, 29, 30, 31, 32, 33])), (20, [tt 21, tt 22, tt 23], 11, (mF 34 [7, 24, 25, 26, 27, 28, 29, 30, 31, 32, 33]))] (by kernel_rfl) kz ?_
  refine ⟨?_, ?_⟩
  ·
   refine WD ?_
   exact wk (g12 trivial)
  ·
   refine WD ?_
   exact wk (g7 trivial)
 have g16 : ∀ (_ : True), At w 35 [dcB kp k] (fs (F2 0) 264959) ([dsB b kp wp lp Iv x]) ([]) (G 16 (mF 34 [12, 16, 20, 21, 22, 23, 24, 25, 26, 27, 28, 29, 30, 31, 32, 33])) := fun _ => by
  refine hnode _ _ _ _ [(12, [], 15, (mF 34 [16, 20, 21, 22, 23, 24, 25, 26, 27, 28, 29, 30, 31, 32, 33])), (16, [], 15, (mF 34 [12, 20, 21, 22, 23, 24, 25, 26, 27, 28, 29, 30, 31, 32, 33])), (20, [tt 21, tt 22, tt 23], 12, (mF 34 [12, 16, 24, 25, 26, 27, 28, 29, 30, 31, 32, 33]))] (by kernel_rfl) kz ?_
  refine ⟨?_, ?_, ?_⟩
  ·
   refine WD ?_
   exact wk (g13 trivial)
  ·
   refine WD ?_
   exact wk (g14 trivial)
  ·
   refine WD ?_
   exact wk (g8 trivial)
 have g17 : ∀ (_ : True), At w 35 [dcB kp k] (fs (F2 0) 265183) ([dsB b kp wp lp Iv x]) ([]) (G 16 (mF 34 [7, 16, 20, 21, 22, 23, 24, 25, 26, 27, 28, 29, 30, 31, 32, 33])) := fun _ => by
  refine hnode _ _ _ _ [(7, [], 15, (mF 34 [16, 20, 21, 22, 23, 24, 25, 26, 27, 28, 29, 30, 31, 32, 33])), (16, [], 15, (mF 34 [7, 20, 21, 22, 23, 24, 25, 26, 27, 28, 29, 30, 31, 32, 33])), (20, [tt 21, tt 22, tt 23], 12, (mF 34 [7, 16, 24, 25, 26, 27, 28, 29, 30, 31, 32, 33]))] (by kernel_rfl) kz ?_
  refine ⟨?_, ?_, ?_⟩
  ·
   refine WD ?_
   exact wk (g13 trivial)
  ·
   refine WD ?_
   exact wk (g15 trivial)
  ·
   refine WD ?_
   exact wk (g9 trivial)
 have g18 : ∀ (_ : True), At w 35 [dcB kp k] (fs (F2 0) 265951) ([dsB b kp wp lp Iv x]) ([]) (G 16 (mF 34 [7, 12, 20, 21, 22, 23, 24, 25, 26, 27, 28, 29, 30, 31, 32, 33])) := fun _ => by
  refine hnode _ _ _ _ [(7, [], 15, (mF 34 [12, 20, 21, 22, 23, 24, 25, 26, 27, 28, 29, 30, 31, 32, 33])), (12, [], 15, (mF 34 [7, 20, 21, 22, 23, 24, 25, 26, 27, 28, 29, 30, 31, 32, 33])), (20, [tt 21, tt 22, tt 23], 12, (mF 34 [7, 12, 24, 25, 26, 27, 28, 29, 30, 31, 32, 33]))] (by kernel_rfl) kz ?_
  refine ⟨?_, ?_, ?_⟩
  ·
   refine WD ?_
   exact wk (g14 trivial)
  ·
   refine WD ?_
   exact wk (g15 trivial)
  ·
   refine WD ?_
   exact wk (g10 trivial)
 have g19 : ∀ (_ : True), At w 35 [dcB kp k] (fs (F2 0) 264927) ([dsB b kp wp lp Iv x]) ([]) (G 17 (mF 34 [7, 12, 16, 20, 21, 22, 23, 24, 25, 26, 27, 28, 29, 30, 31, 32, 33])) := fun _ => by
  refine hnode _ _ _ _ [(7, [], 16, (mF 34 [12, 16, 20, 21, 22, 23, 24, 25, 26, 27, 28, 29, 30, 31, 32, 33])), (12, [], 16, (mF 34 [7, 16, 20, 21, 22, 23, 24, 25, 26, 27, 28, 29, 30, 31, 32, 33])), (16, [], 16, (mF 34 [7, 12, 20, 21, 22, 23, 24, 25, 26, 27, 28, 29, 30, 31, 32, 33])), (20, [tt 21, tt 22, tt 23], 13, (mF 34 [7, 12, 16, 24, 25, 26, 27, 28, 29, 30, 31, 32, 33]))] (by kernel_rfl) kz ?_
  refine ⟨?_, ?_, ?_, ?_⟩
  ·
   refine WD ?_
   exact wk (g16 trivial)
  ·
   refine WD ?_
   exact wk (g17 trivial)
  ·
   refine WD ?_
   exact wk (g18 trivial)
  ·
   refine WD ?_
   exact wk (g11 trivial)
 refine W ?_
 exact wk (g19 trivial)
theorem ds_Step0 {b ba kp : Nat} {wp lp : Option Nat} {Iv : Value} {x : Ds} (hl : x.line = 0) : FnX Tryz.prog 106 [.pointer (some ⟨b, 0, none⟩), .pointer (some ⟨ba, 0, none⟩)] ([]) ([dsB b kp wp lp Iv x]) (fun v N => v = .bool true ∧ N = [dsB b kp wp lp Iv x]) := by
 refine FnX.enter Tryz.func106 (by kernel_rfl) rfl (n := 154) rfl rfl (fun w df hds how => ?_)
 refine Y ?_
 exact At.finalX (N' := [dsB b kp wp lp Iv x]) hds how rfl (.t rfl) (List.Sublist.refl _) (⟨rfl, rfl⟩)
theorem ds_Step10n {b ba kp : Nat} {wp lp : Option Nat} {Iv : Value} {x : Ds} (hl : x.line = 10) (hc : x.hi < x.lo) : FnX Tryz.prog 106 [.pointer (some ⟨b, 0, none⟩), .pointer (some ⟨ba, 0, none⟩)] ([]) ([dsB b kp wp lp Iv x]) (fun v N => v = .bool true ∧ N = [dsB b kp wp lp Iv (⟨x.th, x.cap, x.wd, x.ver, x.t, x.seq, x.lo, x.hi, 0, x.at_, x.n⟩ : Ds)]) := by
 refine FnX.enter Tryz.func106 (by kernel_rfl) rfl (n := 154) rfl rfl (fun w df hds how => ?_)
 refine Y ?_
 refine At.drawK [tt 0, tt 1, tt 2, tt 3, tt 4, tt 5, tt 6, tt 7, tt 8] (by kernel_rfl) (by kernel_rfl) ?_
 refine W ?_
 refine sJ rfl (R.as (R.gtr (.t rfl) (.t rfl)) dT) ?_
 refine W ?_
 refine At.st1 rfl rfl sz_3 (.t rfl) .c rfl rfl (.n U0) ⟨.all, ?_⟩
 refine Y ?_
 exact At.finalX (N' := [.blk b (.cells _ 160)]) hds how rfl (.t rfl) (List.Sublist.refl _) (⟨rfl, rfl⟩)
theorem ds_Step10a {b ba n kp : Nat} {wv Iv : Value} {x : Ds} {k : Dc} {r : Rr} (hl : x.line = 10) (hc : ¬ x.hi < x.lo) (hk : k.ok) (hn : r.w.length = n) (hN : n ≤ 1000000) (hf : r.few) (hw : r.mid 1152921504606846976) (he : ¬ (k.step r).1.line = 0) : FnX Tryz.prog 106 [.pointer (some ⟨b, 0, none⟩), .pointer (some ⟨ba, 0, none⟩)] ([]) ([dsB b kp none none Iv x, dcB kp k, raB ba wv r, raW wv n r]) (fun v N => v = .bool false ∧ N = [dsB b kp none none Iv x, dcB kp (k.step r).1, raB ba wv (k.step r).2, raW wv n (k.step r).2]) := by
 refine FnX.enter Tryz.func106 (by kernel_rfl) rfl (n := 154) rfl rfl (fun w df hds how => ?_)
 refine Y ?_
 refine At.drawK [tt 0, tt 1, tt 2, tt 3, tt 4, tt 5, tt 6, tt 7, tt 8] (by kernel_rfl) (by kernel_rfl) ?_
 refine W ?_
 refine sJ rfl (R.as (R.gtr (.t rfl) (.t rfl)) dF) ?_
 refine W ?_
 refine cM rfl rfl rfl (.k rfl (.k rfl .nil)) rfl (.n (.skip (.take (.take (.take .nil))))) .nil (dc_Step (x := k) (r := r) hk hn hN hf hw) keysDc .nil ⟨.all, ?_⟩
 refine W ?_
 refine At.condD (.t rfl) (fun c3 => ?_) (fun c3 => ?_)
 ·
  exact absurd (by simpa using c3) he
 ·
  refine Y ?_
  exact At.finalX (N' := [dsB b kp none none Iv x, dcB kp (k.step r).1, raB ba wv (k.step r).2, raW wv n (k.step r).2]) hds how rfl (.t rfl) (List.Sublist.refl _) (⟨rfl, rfl⟩)
theorem ds_Step10b {b ba n kp : Nat} {wv Iv : Value} {x : Ds} {k : Dc} {r : Rr} (hl : x.line = 10) (hc : ¬ x.hi < x.lo) (hk : k.ok) (hn : r.w.length = n) (hN : n ≤ 1000000) (hf : r.few) (hw : r.mid 1152921504606846976) (he : (k.step r).1.line = 0) (hq : (k.step r).1.e = 0) : FnX Tryz.prog 106 [.pointer (some ⟨b, 0, none⟩), .pointer (some ⟨ba, 0, none⟩)] ([]) ([dsB b kp none none Iv x, dcB kp k, raB ba wv r, raW wv n r]) (fun v N => ∃ bw, v = .bool false ∧ N = [dwB bw (⟨x.th, x.cap, x.wd, x.ver, x.lo, 1, 0, 0, 0, 0⟩ : Dw), dsB b kp (some bw) none Iv (⟨x.th, x.cap, x.wd, x.ver, x.t, x.seq, x.lo, x.hi, 11, x.at_, x.n⟩ : Ds), dcB kp (k.step r).1, raB ba wv (k.step r).2, raW wv n (k.step r).2]) := by
 refine FnX.enter Tryz.func106 (by kernel_rfl) rfl (n := 154) rfl rfl (fun w df hds how => ?_)
 refine Y ?_
 refine At.drawK [tt 0, tt 1, tt 2, tt 3, tt 4, tt 5, tt 6, tt 7, tt 8] (by kernel_rfl) (by kernel_rfl) ?_
 refine W ?_
 refine sJ rfl (R.as (R.gtr (.t rfl) (.t rfl)) dF) ?_
 refine W ?_
 refine cM rfl rfl rfl (.k rfl (.k rfl .nil)) rfl (.n (.skip (.take (.take (.take .nil))))) .nil (dc_Step (x := k) (r := r) hk hn hN hf hw) keysDc .nil ⟨.all, ?_⟩
 refine W ?_
 refine At.condD (.t rfl) (fun c3 => ?_) (fun c3 => ?_)
 ·
  refine W ?_
  refine At.drawM ([dsB b kp none none Iv x]) ([]) [tt 0, tt 1, tt 2, tt 3, tt 4, tt 6, tt 7, tt 8] [tt 5, tt 9, ff 10] [tt 11, tt 12, ff 13, tt 14, tt 15, ff 16] (keepOf sl) (fun _ h => nomatch h) (by kernel_rfl) (by kernel_rfl) ?_
  refine V ?_
  refine At.stage kz ?_
  refine W ?_
  refine cP rfl rfl rfl (.k rfl (.k rfl .nil)) rfl (dw_New (a := x.th) (b := x.cap) (c := x.wd) (d := x.ver) (key := x.lo)) (fun _ h => nomatch h) (fun v N1 H1 hR => ?_); obtain ⟨bw, rfl, rfl, rfl⟩ := hR; refine ⟨rfl, kz, ?_⟩
  refine At.stage Cl.none ?_
  refine W ?_
  refine At.st1 rfl rfl sz_3 (.t rfl) .c rfl rfl (.n U1) ⟨Cl.none, ?_⟩
  refine W ?_
  refine At.st1 rfl rfl sz_141 (.t rfl) (.t rfl) rfl rfl (.n U1) ⟨Cl.none, ?_⟩
  refine At.nil ?_
  refine At.tN ?_
  refine At.seq ?_
  refine At.plain [ff 0, ff 1, ff 2, ff 3, ff 4, ff 5, ff 6, ff 7] rfl ?_
  refine eA rfl (R.move (.t rfl)) ?_
  refine eA rfl (R.nilCheckP (.t rfl)) ?_
  refine eA rfl (R.fieldAddr fo_160_5 (.t rfl)) ?_
  refine eA rfl (R.load Tryz.underlying157 rfl (.t rfl) (cS M1 rfl)) ?_
  refine eA rfl (R.nilCheckP (.t rfl)) ?_
  refine eA rfl (R.fieldAddr fo_172_6 (.t rfl)) ?_
  refine eA rfl (R.load Tryz.underlying3 rfl (.t rfl) (cS M2 rfl)) ?_
  refine eA rfl (R.as (R.neq (.t rfl) .c) (fun _ => congrArg Value.bool (congrArg Bool.not (decide_eq_true (by omega))))) ?_
  refine At.nil ?_
  refine At.tN ?_
  refine At.cond (.t rfl) (fun c4 => ?_) (fun c4 => ?_)
  ·
   exact absurd hq (by simpa using c4)
  ·
   refine Y ?_
   exact At.finalX (N' := [dwB bw (⟨x.th, x.cap, x.wd, x.ver, x.lo, 1, 0, 0, 0, 0⟩ : Dw), .blk b (.cells _ 160), dcB kp (k.step r).1, raB ba wv (k.step r).2, raW wv n (k.step r).2]) hds how rfl (.t rfl) (List.Sublist.refl _) (⟨bw, rfl, rfl⟩)
 ·
  exact absurd he (by simpa using c3)
theorem ds_Step10c {b ba n kp : Nat} {wv Iv : Value} {x : Ds} {k : Dc} {r : Rr} (hl : x.line = 10) (hc : ¬ x.hi < x.lo) (hk : k.ok) (hn : r.w.length = n) (hN : n ≤ 1000000) (hf : r.few) (hw : r.mid 1152921504606846976) (he : (k.step r).1.line = 0) (hq : ¬ (k.step r).1.e = 0) : FnX Tryz.prog 106 [.pointer (some ⟨b, 0, none⟩), .pointer (some ⟨ba, 0, none⟩)] ([]) ([dsB b kp none none Iv x, dcB kp k, raB ba wv r, raW wv n r]) (fun v N => ∃ bw, v = .bool true ∧ N = [dwB bw (⟨x.th, x.cap, x.wd, x.ver, x.lo, 1, 0, 0, 0, 0⟩ : Dw), dsB b kp (some bw) none Iv (⟨x.th, x.cap, x.wd, x.ver, x.t, x.seq, x.lo, x.hi, 0, x.at_, x.n⟩ : Ds), dcB kp (k.step r).1, raB ba wv (k.step r).2, raW wv n (k.step r).2]) := by
 refine FnX.enter Tryz.func106 (by kernel_rfl) rfl (n := 154) rfl rfl (fun w df hds how => ?_)
 refine Y ?_
 refine At.drawK [tt 0, tt 1, tt 2, tt 3, tt 4, tt 5, tt 6, tt 7, tt 8] (by kernel_rfl) (by kernel_rfl) ?_
 refine W ?_
 refine sJ rfl (R.as (R.gtr (.t rfl) (.t rfl)) dF) ?_
 refine W ?_
 refine cM rfl rfl rfl (.k rfl (.k rfl .nil)) rfl (.n (.skip (.take (.take (.take .nil))))) .nil (dc_Step (x := k) (r := r) hk hn hN hf hw) keysDc .nil ⟨.all, ?_⟩
 refine W ?_
 refine At.condD (.t rfl) (fun c3 => ?_) (fun c3 => ?_)
 ·
  refine W ?_
  refine At.drawM ([dsB b kp none none Iv x]) ([]) [tt 0, tt 1, tt 2, tt 3, tt 4, tt 6, tt 7, tt 8] [tt 5, tt 9, ff 10] [tt 11, tt 12, ff 13, tt 14, tt 15, ff 16] (keepOf sl) (fun _ h => nomatch h) (by kernel_rfl) (by kernel_rfl) ?_
  refine V ?_
  refine At.stage kz ?_
  refine W ?_
  refine cP rfl rfl rfl (.k rfl (.k rfl .nil)) rfl (dw_New (a := x.th) (b := x.cap) (c := x.wd) (d := x.ver) (key := x.lo)) (fun _ h => nomatch h) (fun v N1 H1 hR => ?_); obtain ⟨bw, rfl, rfl, rfl⟩ := hR; refine ⟨rfl, kz, ?_⟩
  refine At.stage Cl.none ?_
  refine W ?_
  refine At.st1 rfl rfl sz_3 (.t rfl) .c rfl rfl (.n U1) ⟨Cl.none, ?_⟩
  refine W ?_
  refine At.st1 rfl rfl sz_141 (.t rfl) (.t rfl) rfl rfl (.n U1) ⟨Cl.none, ?_⟩
  refine At.nil ?_
  refine At.tN ?_
  refine At.seq ?_
  refine At.plain [ff 0, ff 1, ff 2, ff 3, ff 4, ff 5, ff 6, ff 7] rfl ?_
  refine eA rfl (R.move (.t rfl)) ?_
  refine eA rfl (R.nilCheckP (.t rfl)) ?_
  refine eA rfl (R.fieldAddr fo_160_5 (.t rfl)) ?_
  refine eA rfl (R.load Tryz.underlying157 rfl (.t rfl) (cS M1 rfl)) ?_
  refine eA rfl (R.nilCheckP (.t rfl)) ?_
  refine eA rfl (R.fieldAddr fo_172_6 (.t rfl)) ?_
  refine eA rfl (R.load Tryz.underlying3 rfl (.t rfl) (cS M2 rfl)) ?_
  refine eA rfl (R.as (R.neq (.t rfl) .c) (fun _ => congrArg Value.bool (congrArg Bool.not (decide_eq_false (by omega))))) ?_
  refine At.nil ?_
  refine At.tN ?_
  refine At.cond (.t rfl) (fun c4 => ?_) (fun c4 => ?_)
  ·
   refine W ?_
   refine At.st1 rfl rfl sz_3 (.t rfl) .c rfl rfl (.n U1) ⟨.all, ?_⟩
   refine Y ?_
   exact At.finalX (N' := [dwB bw (⟨x.th, x.cap, x.wd, x.ver, x.lo, 1, 0, 0, 0, 0⟩ : Dw), .blk b (.cells _ 160), dcB kp (k.step r).1, raB ba wv (k.step r).2, raW wv n (k.step r).2]) hds how rfl (.t rfl) (List.Sublist.refl _) (⟨bw, rfl, rfl⟩)
  ·
   exact absurd (by simpa using c4) hq
 ·
  exact absurd he (by simpa using c3)
theorem ds_Step11a {b ba n kp bw : Nat} {wv Iv : Value} {lp : Option Nat} {x : Ds} {k : Dc} {u : Dw} {r : Rr} (hl : x.line = 11) (hu : u.ok) (hn : r.w.length = n) (hN : n ≤ 1000000) (hf : r.few) (hw : r.mid 1152921504606846976) (he : ¬ (u.step r).1.line = 0) : FnX Tryz.prog 106 [.pointer (some ⟨b, 0, none⟩), .pointer (some ⟨ba, 0, none⟩)] ([]) ([dsB b kp (some bw) lp Iv x, dcB kp k, dwB bw u, raB ba wv r, raW wv n r]) (fun v N => v = .bool false ∧ N = [dsB b kp (some bw) lp Iv x, dcB kp k, dwB bw (u.step r).1, raB ba wv (u.step r).2, raW wv n (u.step r).2]) := by
 refine FnX.enter Tryz.func106 (by kernel_rfl) rfl (n := 154) rfl rfl (fun w df hds how => ?_)
 refine Y ?_
 refine cM rfl rfl rfl (.k rfl (.k rfl .nil)) rfl (.n (.skip (.skip (.take (.take (.take .nil)))))) .nil (dw_Step (x := u) (r := r) hu hn hN hf hw) keysDw .nil ⟨.all, ?_⟩
 refine W ?_
 refine At.condD (.t rfl) (fun c3 => ?_) (fun c3 => ?_)
 ·
  exact absurd (by simpa using c3) he
 ·
  refine Y ?_
  exact At.finalX (N' := [dsB b kp (some bw) lp Iv x, dcB kp k, dwB bw (u.step r).1, raB ba wv (u.step r).2, raW wv n (u.step r).2]) hds how rfl (.t rfl) (List.Sublist.refl _) (⟨rfl, rfl⟩)
theorem ds_Step11b {b ba n kp bw : Nat} {wv Iv : Value} {lp : Option Nat} {x : Ds} {k : Dc} {u : Dw} {r : Rr} (hl : x.line = 11) (hu : u.ok) (hn : r.w.length = n) (hN : n ≤ 1000000) (hf : r.few) (hw : r.mid 1152921504606846976) (he : (u.step r).1.line = 0) : FnX Tryz.prog 106 [.pointer (some ⟨b, 0, none⟩), .pointer (some ⟨ba, 0, none⟩)] ([]) ([dsB b kp (some bw) lp Iv x, dcB kp k, dwB bw u, raB ba wv r, raW wv n r]) (fun v N => ∃ bl, v = .bool false ∧ N = [dsB b kp (some bw) (some bl) Iv (⟨x.th, x.cap, x.wd, x.ver, x.t, x.seq, x.lo, x.hi, 1, (u.step r).1.at_, x.n⟩ : Ds), dlB bl (.slice none 0 0) (⟨x.th, x.cap, x.wd, x.ver, (u.step r).1.at_, x.lo, x.hi, k.version, 1, 0, 0, 0, 0, 0, []⟩ : Dl), rowE iK 43 (.slice none 0 0) [], dcB kp k, dwB bw (u.step r).1, raB ba wv (u.step r).2, raW wv n (u.step r).2]) := by
 refine FnX.enter Tryz.func106 (by kernel_rfl) rfl (n := 154) rfl rfl (fun w df hds how => ?_)
 refine Y ?_
 refine cM rfl rfl rfl (.k rfl (.k rfl .nil)) rfl (.n (.skip (.skip (.take (.take (.take .nil)))))) .nil (dw_Step (x := u) (r := r) hu hn hN hf hw) keysDw .nil ⟨.all, ?_⟩
 refine W ?_
 refine At.condD (.t rfl) (fun c3 => ?_) (fun c3 => ?_)
 ·
  refine W ?_
  refine cX rfl rfl rfl (.k rfl (.k rfl .nil)) rfl (.take .nil) (.blk (.st M1) .nil) (ds_chunk (b := b) (Iv := Iv) (x := x) (k := k)) (Aprt.sub' sl) (fun v B hR => ⟨.all, ?_⟩); obtain ⟨bl, rfl, rfl⟩ := hR
  refine Z ?_
  exact At.finalX (N' := [dsB b kp (some bw) (some bl) Iv (⟨x.th, x.cap, x.wd, x.ver, x.t, x.seq, x.lo, x.hi, 1, (u.step r).1.at_, x.n⟩ : Ds), dlB bl (.slice none 0 0) (⟨x.th, x.cap, x.wd, x.ver, (u.step r).1.at_, x.lo, x.hi, k.version, 1, 0, 0, 0, 0, 0, []⟩ : Dl), rowE iK 43 (.slice none 0 0) [], dcB kp k, dwB bw (u.step r).1, raB ba wv (u.step r).2, raW wv n (u.step r).2]) hds how rfl (.t rfl) (List.Sublist.refl _) (⟨bl, rfl, rfl⟩)
 ·
  exact absurd he (by simpa using c3)
theorem ds_Step1a {b ba n kp bl : Nat} {wv Iv Lv : Value} {wp : Option Nat} {x : Ds} {y : Dl} {its : List Itm} {r : Rr} (hl : x.line = 1) (hy : y.ok) (hL : y.l.length ≤ 9000) (hI : its.length ≤ 1000000) (hn : r.w.length = n) (hN : n ≤ 1000000) (hf : r.few) (hw : r.mid 1152921504606846976) (he : ¬ (y.step r).1.line = 0) : FnX Tryz.prog 106 [.pointer (some ⟨b, 0, none⟩), .pointer (some ⟨ba, 0, none⟩)] ([]) ([rowE iK 43 Iv its, dsB b kp wp (some bl) Iv x, dlB bl Lv y, rowE iK 43 Lv y.l, raB ba wv r, raW wv n r]) (fun v N => ∃ Lv2, v = .bool false ∧ N = [rowE iK 43 Iv its, dsB b kp wp (some bl) Iv x, dlB bl Lv2 (y.step r).1, rowE iK 43 Lv2 (y.step r).1.l, raB ba wv (y.step r).2, raW wv n (y.step r).2]) := by
 refine FnX.enter Tryz.func106 (by kernel_rfl) rfl (n := 154) rfl rfl (fun w df hds how => ?_)
 refine Y ?_
 refine cX rfl rfl rfl (.k rfl (.k rfl .nil)) rfl (.skip (.skip .all)) .nil (dl_Step (x := y) (r := r) hy (by omega) hn hN hf hw) Aprt.nil (fun v B hR => ⟨.all, ?_⟩); obtain ⟨Lv2, rfl, rfl⟩ := hR; refine At.perm (N' := [rowE iK 43 Iv its, dsB b kp wp (some bl) Iv x, dlB bl Lv2 (y.step r).1, rowE iK 43 Lv2 (y.step r).1.l, raB ba wv (y.step r).2, raW wv n (y.step r).2]) (List.perm_append_comm (l₁ := [_, _, _, _]) (l₂ := [_, _])) ?_
 refine W ?_
 refine At.condD (.t rfl) (fun c4 => ?_) (fun c4 => ?_)
 ·
  exact absurd (by simpa using c4) he
 ·
  refine Y ?_
  exact At.finalX (N' := [rowE iK 43 Iv its, dsB b kp wp (some bl) Iv x, dlB bl Lv2 (y.step r).1, rowE iK 43 Lv2 (y.step r).1.l, raB ba wv (y.step r).2, raW wv n (y.step r).2]) hds how rfl (.t rfl) (List.Sublist.refl _) (⟨Lv2, rfl, rfl⟩)
theorem ds_Step1b {b ba n kp bl : Nat} {wv Iv Lv : Value} {wp : Option Nat} {x : Ds} {y : Dl} {its : List Itm} {r : Rr} (hl : x.line = 1) (hy : y.ok) (hL : y.l.length ≤ 9000) (hI : its.length ≤ 1000000) (hn : r.w.length = n) (hN : n ≤ 1000000) (hf : r.few) (hw : r.mid 1152921504606846976) (he : (y.step r).1.line = 0) (hL2 : (y.step r).1.l.length ≤ 10000) : FnX Tryz.prog 106 [.pointer (some ⟨b, 0, none⟩), .pointer (some ⟨ba, 0, none⟩)] ([]) ([rowE iK 43 Iv its, dsB b kp wp (some bl) Iv x, dlB bl Lv y, rowE iK 43 Lv y.l, raB ba wv r, raW wv n r]) (fun v N => ∃ Iv2 Lv2, v = .bool false ∧ N = [rowE iK 43 Iv2 ((y.step r).1.l.foldl takeD its), dsB b kp wp (some bl) Iv2 (⟨x.th, x.cap, x.wd, x.ver, x.t, x.seq, x.lo, x.hi, 2, x.at_, x.n⟩ : Ds), dlB bl Lv2 (y.step r).1, rowE iK 43 Lv2 (y.step r).1.l, raB ba wv (y.step r).2, raW wv n (y.step r).2]) := by
 refine FnX.enter Tryz.func106 (by kernel_rfl) rfl (n := 154) rfl rfl (fun w df hds how => ?_)
 refine Y ?_
 refine cX rfl rfl rfl (.k rfl (.k rfl .nil)) rfl (.skip (.skip .all)) .nil (dl_Step (x := y) (r := r) hy (by omega) hn hN hf hw) Aprt.nil (fun v B hR => ⟨.all, ?_⟩); obtain ⟨Lv2, rfl, rfl⟩ := hR; refine At.perm (N' := [rowE iK 43 Iv its, dsB b kp wp (some bl) Iv x, dlB bl Lv2 (y.step r).1, rowE iK 43 Lv2 (y.step r).1.l, raB ba wv (y.step r).2, raW wv n (y.step r).2]) (List.perm_append_comm (l₁ := [_, _, _, _]) (l₂ := [_, _])) ?_
 refine W ?_
 refine At.condD (.t rfl) (fun c4 => ?_) (fun c4 => ?_)
 ·
  refine W ?_
  refine cX rfl rfl rfl (.k rfl .nil) rfl (.take (.take .nil)) (.blk (.st M2) (.cons (wS M3) .nil)) (ds_takes (b := b) (bl := bl) (Iv := Iv) (Lv := Lv2) (x := x) (y := (y.step r).1) (its := its) hL2 hI) (Aprt.two sl) (fun v B hR => ⟨.all, ?_⟩); obtain ⟨Iv2, rfl, rfl⟩ := hR
  refine W ?_
  refine At.st1 rfl rfl sz_3 (.t rfl) .c rfl rfl (.n U1) ⟨.all, ?_⟩
  refine Y ?_
  exact At.finalX (N' := [rowE iK 43 Iv2 ((y.step r).1.l.foldl takeD its), .blk b (.cells _ 160), dlB bl Lv2 (y.step r).1, rowE iK 43 Lv2 (y.step r).1.l, raB ba wv (y.step r).2, raW wv n (y.step r).2]) hds how rfl (.t rfl) (List.Sublist.refl _) (⟨Iv2, Lv2, rfl, rfl⟩)
 ·
  exact absurd he (by simpa using c4)
theorem ds_Step2 {b ba n kp : Nat} {wv Iv : Value} {wp lp : Option Nat} {x : Ds} {r : Rr} (hl : x.line = 2) (hx : -1152921504606846976 ≤ x.at_ ∧ x.at_ ≤ 1152921504606846976) (hx2 : -1152921504606846976 ≤ x.n ∧ x.n ≤ 1152921504606846976) (hn : r.w.length = n) (hN : n ≤ 1000000) (hf : r.few) (hw : r.mid 1152921504606846976) : FnX Tryz.prog 106 [.pointer (some ⟨b, 0, none⟩), .pointer (some ⟨ba, 0, none⟩)] ([]) ([dsB b kp wp lp Iv x, raB ba wv r, raW wv n r]) (fun v N => v = .bool false ∧ N = [dsB b kp wp lp Iv (if (r.peek (x.at_ + 2) / 2) = 0 then (⟨x.th, x.cap, x.wd, x.ver, x.t, x.seq, x.lo, x.hi, 4, x.at_, (r.peek (x.at_ + 2) / 2)⟩ : Ds) else (⟨x.th, x.cap, x.wd, x.ver, x.t, x.seq, x.lo, x.hi, 3, x.at_, (r.peek (x.at_ + 2) / 2)⟩ : Ds)), raB ba wv (r.load (x.at_ + 2)), raW wv n (r.load (x.at_ + 2))]) := by
 refine FnX.enter Tryz.func106 (by kernel_rfl) rfl (n := 154) rfl rfl (fun w df hds how => ?_)
 refine Y ?_
 refine cM rfl rfl rfl (.k rfl (.k rfl .nil)) rfl (.n (.skip (.take (.take .nil)))) .nil (r_Load (r := r) (i := x.at_ + 2) hn hN hf) keysRa .nil ⟨.all, ?_⟩
 refine At.callVR rfl rfl rfl (.k rfl .nil) (.nil) (fun hg => r_At) .all ?_
 refine W ?_
 refine At.st1 rfl rfl sz_3 (.t rfl) (.t rfl) rfl rfl (.n U0) ⟨.all, ?_⟩
 refine W ?_
 refine At.st1 rfl rfl sz_3 (.t rfl) .c rfl rfl (.n U0) ⟨.all, ?_⟩
 refine Z ?_
 refine At.condD (.t rfl) (fun c5 => ?_) (fun c5 => ?_)
 ·
  refine W ?_
  refine At.st1 rfl rfl sz_3 (.t rfl) .c rfl rfl (.n U0) ⟨.all, ?_⟩
  refine Y ?_
  exact At.finalX (N' := [.blk b (.cells _ 160), raB ba wv (r.load (x.at_ + 2)), raW wv n (r.load (x.at_ + 2))]) hds how rfl (.t rfl) (List.Sublist.refl _) (⟨rfl, by (rw [if_pos (by simpa using c5)]; rfl)⟩)
 ·
  refine Y ?_
  exact At.finalX (N' := [.blk b (.cells _ 160), raB ba wv (r.load (x.at_ + 2)), raW wv n (r.load (x.at_ + 2))]) hds how rfl (.t rfl) (List.Sublist.refl _) (⟨rfl, by (rw [if_neg (by simpa using c5)]; rfl)⟩)
theorem ds_Step3a {b ba n kp : Nat} {wv Iv : Value} {wp lp : Option Nat} {x : Ds} {r : Rr} (hl : x.line = 3) (hx : -1152921504606846976 ≤ x.at_ ∧ x.at_ ≤ 1152921504606846976) (hx2 : -1152921504606846976 ≤ x.n ∧ x.n ≤ 1152921504606846976) (hn : r.w.length = n) (hN : n ≤ 1000000) (hf : r.few) (hw : r.mid 1152921504606846976) (hc : ¬ r.peek x.n ≤ x.hi) : FnX Tryz.prog 106 [.pointer (some ⟨b, 0, none⟩), .pointer (some ⟨ba, 0, none⟩)] ([]) ([dsB b kp wp lp Iv x, raB ba wv r, raW wv n r]) (fun v N => v = .bool false ∧ N = [dsB b kp wp lp Iv (⟨x.th, x.cap, x.wd, x.ver, x.t, x.seq, x.lo, x.hi, 4, x.at_, x.n⟩ : Ds), raB ba wv (r.load x.n), raW wv n (r.load x.n)]) := by
 refine FnX.enter Tryz.func106 (by kernel_rfl) rfl (n := 154) rfl rfl (fun w df hds how => ?_)
 refine Y ?_
 refine At.st1 rfl rfl sz_3 (.t rfl) .c rfl rfl (.n U0) ⟨.all, ?_⟩
 refine W ?_
 refine At.re (N' := [dsB b kp wp lp Iv (⟨x.th, x.cap, x.wd, x.ver, x.t, x.seq, x.lo, x.hi, 4, x.at_, x.n⟩ : Ds), raB ba wv r, raW wv n r]) rfl ?_
 have hq : (⟨x.th, x.cap, x.wd, x.ver, x.t, x.seq, x.lo, x.hi, 4, x.at_, x.n⟩ : Ds).n = x.n := rfl
 refine At.drawL ([.blk b (.cells (dsC kp wp lp Iv (⟨x.th, x.cap, x.wd, x.ver, x.t, x.seq, x.lo, x.hi, 4, x.at_, x.n⟩ : Ds)) 160)]) [tt 0, tt 1, tt 2, tt 3, tt 4, tt 5, tt 7, tt 8, tt 9, tt 10] [] [ff 6, tt 11] (keepOf sl) (by kernel_rfl) (by kernel_rfl) ?_
 refine sC rfl kz (R.move (.t rfl)) ?_
 refine sC rfl kz (R.move (.t rfl)) ?_
 refine sC rfl kz (R.nilCheckP (.t rfl)) ?_
 refine sC rfl kz (R.fieldAddr fo_160_10 (.t rfl)) ?_
 refine sC rfl kz (R.load Tryz.underlying3 rfl (.t rfl) (cK M0 rfl)) ?_
 refine sC rfl kz (R.as (R.addI (.t rfl) .c gO) (fun _ => congrArg (Value.int .i64) (Int.add_zero x.n))) ?_
 refine V ?_
 refine At.stage kI ?_
 refine At.stage kz ?_
 refine cM rfl rfl rfl (.k rfl (.k rfl .nil)) rfl (.n (.skip (.take (.take .nil)))) .nil (r_Load (r := r) (i := x.n) hn hN hf) keysRa .nil ⟨kz, ?_⟩
 refine sC rfl kz (R.as (R.leq (.t rfl) (.t rfl)) dF) ?_
 refine At.nil ?_
 refine At.tN ?_
 refine At.cond (.t rfl) (fun c6 => ?_) (fun c6 => ?_)
 ·
  exact absurd (by simpa using c6) hc
 ·
  refine Z ?_
  exact At.finalX (N' := [.blk b (.cells _ 160), raB ba wv (r.load x.n), raW wv n (r.load x.n)]) hds how rfl (.t rfl) (List.Sublist.refl _) (⟨rfl, rfl⟩)
theorem ds_Step3b {b ba n kp : Nat} {wv Iv : Value} {wp lp : Option Nat} {x : Ds} {r : Rr} {k : Dc} (hl : x.line = 3) (hx : -1152921504606846976 ≤ x.at_ ∧ x.at_ ≤ 1152921504606846976) (hx2 : -1152921504606846976 ≤ x.n ∧ x.n ≤ 1152921504606846976) (hn : r.w.length = n) (hN : n ≤ 1000000) (hf : r.few) (hw : r.mid 1152921504606846976) (hc : r.peek x.n ≤ x.hi) : FnX Tryz.prog 106 [.pointer (some ⟨b, 0, none⟩), .pointer (some ⟨ba, 0, none⟩)] ([]) ([dsB b kp wp lp Iv x, dcB kp k, raB ba wv r, raW wv n r]) (fun v N => ∃ bl, v = .bool false ∧ N = [dsB b kp wp (some bl) Iv (⟨x.th, x.cap, x.wd, x.ver, x.t, x.seq, x.lo, x.hi, 1, x.n, x.n⟩ : Ds), dlB bl (.slice none 0 0) (⟨x.th, x.cap, x.wd, x.ver, x.n, x.lo, x.hi, k.version, 1, 0, 0, 0, 0, 0, []⟩ : Dl), rowE iK 43 (.slice none 0 0) [], dcB kp k, raB ba wv (r.load x.n), raW wv n (r.load x.n)]) := by
 refine FnX.enter Tryz.func106 (by kernel_rfl) rfl (n := 154) rfl rfl (fun w df hds how => ?_)
 refine Y ?_
 refine At.st1 rfl rfl sz_3 (.t rfl) .c rfl rfl (.n U0) ⟨.all, ?_⟩
 refine W ?_
 refine At.re (N' := [dsB b kp wp lp Iv (⟨x.th, x.cap, x.wd, x.ver, x.t, x.seq, x.lo, x.hi, 4, x.at_, x.n⟩ : Ds), dcB kp k, raB ba wv r, raW wv n r]) rfl ?_
 have hq : (⟨x.th, x.cap, x.wd, x.ver, x.t, x.seq, x.lo, x.hi, 4, x.at_, x.n⟩ : Ds).n = x.n := rfl
 refine At.drawL ([.blk b (.cells (dsC kp wp lp Iv (⟨x.th, x.cap, x.wd, x.ver, x.t, x.seq, x.lo, x.hi, 4, x.at_, x.n⟩ : Ds)) 160)]) [tt 0, tt 1, tt 2, tt 3, tt 4, tt 5, tt 7, tt 8, tt 9, tt 10] [] [ff 6, tt 11] (keepOf sl) (by kernel_rfl) (by kernel_rfl) ?_
 refine sC rfl kz (R.move (.t rfl)) ?_
 refine sC rfl kz (R.move (.t rfl)) ?_
 refine sC rfl kz (R.nilCheckP (.t rfl)) ?_
 refine sC rfl kz (R.fieldAddr fo_160_10 (.t rfl)) ?_
 refine sC rfl kz (R.load Tryz.underlying3 rfl (.t rfl) (cK M0 rfl)) ?_
 refine sC rfl kz (R.as (R.addI (.t rfl) .c gO) (fun _ => congrArg (Value.int .i64) (Int.add_zero x.n))) ?_
 refine V ?_
 refine At.stage kI ?_
 refine At.stage kz ?_
 refine cM rfl rfl rfl (.k rfl (.k rfl .nil)) rfl (.n (.skip (.skip (.take (.take .nil))))) .nil (r_Load (r := r) (i := x.n) hn hN hf) keysRa .nil ⟨kz, ?_⟩
 refine sC rfl kz (R.as (R.leq (.t rfl) (.t rfl)) dT) ?_
 refine At.nil ?_
 refine At.tN ?_
 refine At.cond (.t rfl) (fun c6 => ?_) (fun c6 => ?_)
 ·
  refine W ?_
  refine cX rfl rfl rfl (.k rfl (.k rfl .nil)) rfl (.take .nil) (.blk (.st M1) .nil) (ds_chunk (b := b) (Iv := Iv) (x := (⟨x.th, x.cap, x.wd, x.ver, x.t, x.seq, x.lo, x.hi, 4, x.at_, x.n⟩ : Ds)) (k := k)) (Aprt.sub' sl) (fun v B hR => ⟨.all, ?_⟩); obtain ⟨bl, rfl, rfl⟩ := hR
  refine Z ?_
  exact At.finalX (N' := [dsB b kp wp (some bl) Iv (⟨x.th, x.cap, x.wd, x.ver, x.t, x.seq, x.lo, x.hi, 1, x.n, x.n⟩ : Ds), dlB bl (.slice none 0 0) (⟨x.th, x.cap, x.wd, x.ver, x.n, x.lo, x.hi, k.version, 1, 0, 0, 0, 0, 0, []⟩ : Dl), rowE iK 43 (.slice none 0 0) [], dcB kp k, raB ba wv (r.load x.n), raW wv n (r.load x.n)]) hds how rfl (.t rfl) (List.Sublist.refl _) (⟨bl, rfl, rfl⟩)
 ·
  exact absurd hc (by simpa using c6)
theorem ds_Step4 {b ba n kp : Nat} {wv Iv : Value} {wp lp : Option Nat} {x : Ds} {r : Rr} (hl : x.line = 4) (ht : 0 ≤ x.t ∧ x.t ≤ 100000) (hn : r.w.length = n) (hN : n ≤ 1000000) (hf : r.few) (hw : r.mid 1152921504606846976) : FnX Tryz.prog 106 [.pointer (some ⟨b, 0, none⟩), .pointer (some ⟨ba, 0, none⟩)] ([]) ([dsB b kp wp lp Iv x, raB ba wv r, raW wv n r]) (fun v N => v = .bool true ∧ N = [dsB b kp wp lp Iv (⟨x.th, x.cap, x.wd, x.ver, x.t, x.seq, x.lo, x.hi, 0, x.at_, x.n⟩ : Ds), raB ba wv (r.store (3 + x.t) (claimD x.seq 0)), raW wv n (r.store (3 + x.t) (claimD x.seq 0))]) := by
 refine FnX.enter Tryz.func106 (by kernel_rfl) rfl (n := 154) rfl rfl (fun w df hds how => ?_)
 refine Y ?_
 refine At.drawL ([dsB b kp wp lp Iv x]) [tt 0, tt 1, tt 2, tt 3, tt 4, tt 6, tt 7, tt 8, tt 9] [ff 5, ff 10] [ff 11] (keepOf sl) (by kernel_rfl) (by kernel_rfl) ?_
 refine V ?_
 refine At.stage kI ?_
 refine At.callVR rfl rfl rfl (.k rfl .nil) (.nil) (fun hg => r_Psa (by omega)) kI ?_
 refine At.callVR rfl rfl rfl (.k rfl (.kc .nil)) (.nil) (fun hg => r_Claim) kI ?_
 refine At.stage kz ?_
 refine cM rfl rfl rfl (.k rfl (.k rfl (.k rfl .nil))) rfl (.n (.skip (.take (.take .nil)))) .nil (r_Store (r := r) (i := 3 + x.t) (x := claimD x.seq 0) hn hN hf) keysRa .nil ⟨kz, ?_⟩
 refine W ?_
 refine At.st1 rfl rfl sz_3 (.t rfl) .c rfl rfl (.n U0) ⟨.all, ?_⟩
 refine Y ?_
 exact At.finalX (N' := [.blk b (.cells _ 160), raB ba wv (r.store (3 + x.t) (claimD x.seq 0)), raW wv n (r.store (3 + x.t) (claimD x.seq 0))]) hds how rfl (.t rfl) (List.Sublist.refl _) (⟨rfl, rfl⟩)
end Go.Proofs.YtbolanigdkgbdaaGreat
namespace Go.Proofs.YtbolanigdkgbdaaGreat
open Go Go.RowKit
set_option maxRecDepth 10000
set_option linter.unusedVariables false
set_option linter.unnecessarySimpa false
set_option maxHeartbeats 1000000
theorem bt_174 : buildTab Tryz.prog 174 = some (#[.int .i64 0, .int .i64 0], [(0, 1), (1, 1)]) := by kernel_rfl
theorem et_174 : elemTab Tryz.prog 174 = some (2, 16) := by kernel_rfl
theorem fo_134_5 : fieldOff? Tryz.prog 134 5 = some 5 := by kernel_rfl
theorem sz_132 : (Tryz.prog.info? 132).map (·.size) = some 1 := by kernel_rfl
abbrev pK : Ek (Int × Int) := ⟨fun x => [.int .i64 x.1, .int .i64 x.2], 2, fun _ => rfl, fun _ v hv => by
  simp at hv; rcases hv with rfl | rfl <;> rfl⟩
def pairsD (l : List Itm) : List (Int × Int) := (l.filter fun y => decide (0 ≤ y.data % 2097152 - 1)).map fun y => (y.key, y.data % 2097152 - 1)
theorem pairsD_yes {l : List Itm} {i : Nat} (h : i < l.length) (c : 0 ≤ (gE l (i : Int)).data % 2097152 - 1) : pairsD (l.take (i + 1)) = pairsD (l.take i) ++ [((gE l (i : Int)).key, (gE l (i : Int)).data % 2097152 - 1)] := by
  have e : gE l (i : Int) = l[i] := by simp [gE, h]
  unfold pairsD
  rw [List.take_succ_eq_append_getElem h, List.filter_append, List.map_append, e]
  rw [e] at c
  rw [List.filter_cons, if_pos (decide_eq_true c)]; rfl
theorem pairsD_no {l : List Itm} {i : Nat} (h : i < l.length) (c : ¬ 0 ≤ (gE l (i : Int)).data % 2097152 - 1) : pairsD (l.take (i + 1)) = pairsD (l.take i) := by
  have e : gE l (i : Int) = l[i] := by simp [gE, h]
  unfold pairsD
  rw [List.take_succ_eq_append_getElem h, List.filter_append, List.map_append]
  rw [e] at c
  rw [List.filter_cons, if_neg (by simpa using c)]; exact List.append_nil _
theorem ds_Answer0 {b kp : Nat} {wp lp : Option Nat} {Iv : Value} {x : Ds} {k : Dc} {its : List Itm} (hl : ¬ x.line = 0) : Fn Tryz.prog 107 [.pointer (some ⟨b, 0, none⟩)] ([dsB b kp wp lp Iv x]) ([]) (IsV (.agg (anV ⟨0, false, 0, 0, 0⟩ (.slice none 0 0)))) := by
 refine Fn.enter Tryz.func107 (by kernel_rfl) rfl (n := 72) rfl rfl (fun w => ?_)
 refine W ?_
 refine At.alloc rfl rfl rfl ze_134 (fun b1 hb1 => ⟨.all, ?_⟩)
 refine W ?_
 refine eA rfl (R.as (R.neq (.t rfl) .c) (fun _ => congrArg Value.bool (congrArg Bool.not (decide_eq_false (by omega))))) ?_
 refine W ?_
 refine eA rfl (R.build bt_134 .nil .nil rfl) ?_
 refine At.stAll (vs := [.int .i64 0, .bool false, .int .i64 0, .int .i64 0, .int .i64 0, .slice none 0 0]) rfl rfl sz_134 (.t rfl) (.t rfl) rfl rfl rfl (.n U0) ⟨.all, ?_⟩
 refine W ?_
 exact At.final rfl (.a (vs := [_, _, _, _, _, _]) Tryz.underlying134 rfl sz_134 rfl (csS M1 ⟨rfl, rfl, rfl, rfl, rfl, rfl, trivial⟩)) (List.nil_sublist _) (⟨rfl, rfl, rfl⟩)
theorem ds_AnswerE {b kp : Nat} {wp lp : Option Nat} {Iv : Value} {x : Ds} {k : Dc} {its : List Itm} (hl : x.line = 0) (he : ¬ k.e = 0) : Fn Tryz.prog 107 [.pointer (some ⟨b, 0, none⟩)] ([dsB b kp wp lp Iv x, dcB kp k]) ([]) (IsV (.agg (anV ⟨k.e, false, 0, 0, 0⟩ (.slice none 0 0)))) := by
 refine Fn.enter Tryz.func107 (by kernel_rfl) rfl (n := 72) rfl rfl (fun w => ?_)
 refine W ?_
 refine At.alloc rfl rfl rfl ze_134 (fun b1 hb1 => ⟨.all, ?_⟩)
 refine W ?_
 refine eA rfl (R.as (R.neq (.t rfl) .c) (fun _ => congrArg Value.bool (congrArg Bool.not (decide_eq_true (by omega))))) ?_
 refine W ?_
 refine eA rfl (R.as (R.neq (.t rfl) .c) (fun _ => congrArg Value.bool (congrArg Bool.not (decide_eq_false (by omega))))) ?_
 refine W ?_
 refine eA rfl (R.build bt_134 (.k rfl .nil) (.cons rfl .nil) rfl) ?_
 refine At.stAll (vs := [.int .i64 k.e, .bool false, .int .i64 0, .int .i64 0, .int .i64 0, .slice none 0 0]) rfl rfl sz_134 (.t rfl) (.t rfl) rfl rfl rfl (.n U0) ⟨.all, ?_⟩
 refine W ?_
 exact At.final rfl (.a (vs := [_, _, _, _, _, _]) Tryz.underlying134 rfl sz_134 rfl (csS M2 ⟨rfl, rfl, rfl, rfl, rfl, rfl, trivial⟩)) (List.nil_sublist _) (⟨rfl, rfl, rfl⟩)
theorem ds_Answer {b kp : Nat} {wp lp : Option Nat} {Iv : Value} {x : Ds} {k : Dc} {its : List Itm} (hl : x.line = 0) (he : k.e = 0) (hI : its.length ≤ 1000000) : Fn Tryz.prog 107 [.pointer (some ⟨b, 0, none⟩)] ([dsB b kp wp lp Iv x, dcB kp k, rdE iK Iv its]) ([]) (fun v N H => ∃ pv, v = .agg (anV ⟨0, false, 0, -1, k.version⟩ pv) ∧ N = [rowE pK 174 pv (pairsD its)] ∧ H = []) := by
 refine Fn.enter Tryz.func107 (by kernel_rfl) rfl (n := 72) rfl rfl (fun w => ?_)
 refine W ?_
 refine At.alloc rfl rfl rfl ze_134 (fun b1 hb1 => ⟨.all, ?_⟩)
 refine W ?_
 refine eA rfl (R.as (R.neq (.t rfl) .c) (fun _ => congrArg Value.bool (congrArg Bool.not (decide_eq_true (by omega))))) ?_
 refine W ?_
 refine eA rfl (R.as (R.neq (.t rfl) .c) (fun _ => congrArg Value.bool (congrArg Bool.not (decide_eq_true (by omega))))) ?_
 refine W ?_
 refine eA rfl (R.build bt_134 (.kc (.k rfl .nil)) (.cons rfl (.cons rfl .nil)) rfl) ?_
 refine At.alloc rfl rfl rfl ze_134 (fun b2 hb2 => ⟨.all, ?_⟩)
 refine At.stAll (vs := [.int .i64 0, .bool false, .int .i64 0, .int .i64 (-1), .int .i64 k.version, .slice none 0 0]) rfl rfl sz_134 (.t rfl) (.t rfl) rfl rfl rfl (.n U0) ⟨.all, ?_⟩
 refine W ?_
 refine At.nilRow pK 174 ?_
 refine At.loop3 (fun (i : Nat) (ps : List (Int × Int)) (pv : Value) => i ≤ its.length ∧ ps = pairsD (its.take i) ∧ ps.length ≤ i) (fun (i : Nat) (ps : List (Int × Int)) (pv : Value) => its.length - i) (fun (i : Nat) (ps : List (Int × Int)) (pv : Value) => [(0, true, .pointer (some ⟨b, 0, none⟩)), (2, true, .pointer (some ⟨b1, 0, none⟩)), (3, true, .pointer (some ⟨b2, 0, none⟩)), (4, true, .int .i64 i)]) (fun (i : Nat) (ps : List (Int × Int)) (pv : Value) => [rowE pK 174 pv ps, .blk b2 (.cells #[.int .i64 0, .bool false, .int .i64 0, .int .i64 (-1), .int .i64 k.version, pv] 134), .blk b1 (.cells #[.int .i64 0, .bool false, .int .i64 0, .int .i64 0, .int .i64 0, .slice none 0 0] 134)]) (fun (i : Nat) (ps : List (Int × Int)) (pv : Value) => []) (0) ([]) ((.slice none 0 0)) ⟨Nat.zero_le _, rfl, Nat.le_refl _⟩ (.cons rfl (.cons rfl (.cons rfl (.cons rfl .nil)))) (List.Sublist.refl _) rfl (fun i ps pv hi => ?_)
 obtain ⟨hi1, hi2, hi3⟩ := hi
 refine Z ?_
 refine At.condD (.t rfl) (fun c3 => ?_) (fun c3 => ?_)
 ·
  refine W ?_
  refine At.callVR rfl rfl rfl (.k rfl .nil) (.nil) (fun hg => r_Val) .all ?_
  refine Z ?_
  refine At.condD (.t rfl) (fun c4 => ?_) (fun c4 => ?_)
  ·
   refine At.drawM ([dsB b kp wp lp Iv x, rdE iK Iv its, .blk b2 (.cells #[.int .i64 0, .bool false, .int .i64 0, .int .i64 (-1), .int .i64 k.version, pv] 134)]) ([]) [tt 0, tt 2, tt 3, tt 4, tt 6, tt 10] [tt 1, tt 5, tt 7, tt 8, tt 9, tt 11, ff 12, ff 13, tt 14] [ff 15] (keepOf sl) (fun _ h => nomatch h) (by kernel_rfl) (by kernel_rfl) ?_
   refine V ?_
   refine At.stage kz ?_
   refine W ?_
   refine sC rfl kz (R.build bt_174 (.k rfl (.k rfl .nil)) (.cons rfl (.cons rfl .nil)) rfl) ?_
   refine At.lit (k := pK) rfl rfl rfl Tryz.underlying132 et_174 (.k rfl .nil) (.cons (y := ((gE its (i : Int)).key, ((gE its (i : Int)).data % 2097152 - 1))) rfl .nil) rfl rfl rfl (fun v1 => ⟨kz, ?_⟩)
   refine At.app (k := pK) rfl rfl rfl Tryz.underlying132 et_174 (.t rfl) (.t rfl) (fun _ => by (exact U1)) (wS M3) (by (simp <;> omega)) (fun v2 => ⟨kz, ?_⟩)
   refine V ?_
   refine At.stage Cl.none ?_
   refine At.rowOne (v := v2) (M4) (fun h1v => ?_)
   refine At.st1 rfl rfl sz_132 (.t rfl) (.t rfl) h1v rfl (.n U2) ⟨Cl.none, ?_⟩
   refine W ?_
   exact At.again3 (i + 1) (ps ++ [((gE its (i : Int)).key, ((gE its (i : Int)).data % 2097152 - 1))]) (v2) ⟨by omega, by rw [hi2]; exact (pairsD_yes (by omega) (by simpa using c4)).symm, by simp; omega⟩ (by omega) (.cons rfl (.cons rfl (.cons rfl (.cons rfl .nil)))) sl rfl
  ·
   refine W ?_
   exact At.again3 (i + 1) (ps) (pv) ⟨by omega, by rw [hi2]; exact (pairsD_no (by omega) (by simpa using c4)).symm, by omega⟩ (by omega) (.cons rfl (.cons rfl (.cons rfl (.cons rfl .nil)))) (List.Sublist.refl _) rfl
 ·
  refine U ?_
  refine eA rfl (R.loadAgg (vs := [_, _, _, _, _, _]) Tryz.underlying134 rfl sz_134 (.t rfl) (csS M4 ⟨rfl, rfl, rfl, rfl, rfl, rfl, trivial⟩)) ?_
  refine At.rowOne (v := pv) (M3) (fun h1v => ?_)
  refine At.stAll (vs := [.int .i64 0, .bool false, .int .i64 0, .int .i64 (-1), .int .i64 k.version, pv]) rfl rfl sz_134 (.t rfl) (.t rfl) (by simp only [List.all_cons, List.all_nil, h1v]; rfl) rfl rfl (.n U2) ⟨.all, ?_⟩
  refine W ?_
  refine At.reRow (v := pv) (xs' := pairsD its) .here (by rw [hi2, List.take_of_length_le (by omega)]) ?_
  exact At.final (N' := [rowE pK 174 pv (pairsD its)]) rfl (.a (vs := [_, _, _, _, _, _]) Tryz.underlying134 rfl sz_134 rfl (csS M5 ⟨rfl, rfl, rfl, rfl, rfl, rfl, trivial⟩)) sl (⟨pv, rfl, rfl, rfl⟩)
end Go.Proofs.YtbolanigdkgbdaaGreat
