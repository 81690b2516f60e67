/- Part of the proof: lemmas for what the last file states; no condition. -/
import Derived.Test.YtbolanigdkgbdaaGreatZM4
set_option linter.unusedSectionVars false
namespace Go.Proofs.YtbolanigdkgbdaaGreat
open Go Go.RowKit
set_option maxRecDepth 10000
set_option linter.unusedVariables false
set_option maxHeartbeats 1000000
theorem bt_63 : buildTab Tryz.prog 63 = some (#[.int .i64 0, .int .i64 0, .int .i64 0, .int .i64 0, .int .i64 0, .int .i64 0, .int .i64 0, .int .i64 0, .int .i64 0, .int .i64 0, .int .i64 0, .int .i64 0, .int .i64 0, .int .i64 0, .slice none 0 0], [(0, 4), (4, 1), (5, 1), (6, 1), (7, 1), (8, 1), (9, 1), (10, 1), (11, 1), (12, 1), (13, 1), (14, 1)]) := by kernel_rfl
theorem fo_63_11 : fieldOff? Tryz.prog 63 11 = some 14 := by kernel_rfl
theorem fo_63_4 : fieldOff? Tryz.prog 63 4 = some 7 := by kernel_rfl
theorem fo_63_5 : fieldOff? Tryz.prog 63 5 = some 8 := by kernel_rfl
theorem fo_63_6 : fieldOff? Tryz.prog 63 6 = some 9 := by kernel_rfl
theorem fo_63_7 : fieldOff? Tryz.prog 63 7 = some 10 := by kernel_rfl
theorem fo_63_8 : fieldOff? Tryz.prog 63 8 = some 11 := by kernel_rfl
theorem fo_63_9 : fieldOff? Tryz.prog 63 9 = some 12 := by kernel_rfl
structure Dl where
  th : Int
  cap : Int
  wd : Int
  ver : Int
  chunk : Int
  lo : Int
  hi : Int
  most : Int
  line : Int
  i : Int
  count : Int
  s : Int
  k : Int
  g : Int
  l : List Itm
abbrev dlC (Lv : Value) (x : Dl) : Array Value := #[.int .i64 x.th, .int .i64 x.cap, .int .i64 x.wd, .int .i64 x.ver, .int .i64 x.chunk, .int .i64 x.lo, .int .i64 x.hi, .int .i64 x.most, .int .i64 x.line, .int .i64 x.i, .int .i64 x.count, .int .i64 x.s, .int .i64 x.k, .int .i64 x.g, Lv]
abbrev dlB (b : Nat) (Lv : Value) (x : Dl) : Ent := .blk b (.cells (dlC Lv x) 63)
def itD (l : List Itm) (key : Int) : Int := match l.findIdx? (fun y => decide (y.key = key)) with
  | some i => i
  | none => -1
theorem itD_yes {l : List Itm} {key : Int} {i : Nat} (h : i < l.length) (h1 : (gE l (i : Int)).key = key) (h2 : ∀ j : Nat, j < i → (gE l (j : Int)).key ≠ key) : itD l key = i := by
  unfold itD
  have : l.findIdx? (fun y => decide (y.key = key)) = some i := by
    rw [List.findIdx?_eq_some_iff_getElem]
    refine ⟨h, by simpa [gE, h] using h1, fun j hj => ?_⟩
    have := h2 j hj
    simpa [gE, show j < l.length by omega] using this
  rw [this]
theorem itD_no {l : List Itm} {key : Int} {i : Nat} (h : l.length ≤ i) (h2 : ∀ j : Nat, j < i → (gE l (j : Int)).key ≠ key) : itD l key = -1 := by
  unfold itD
  have : l.findIdx? (fun y => decide (y.key = key)) = none := by
    rw [List.findIdx?_eq_none_iff]
    intro y hy
    obtain ⟨j, hj, rfl⟩ := List.getElem_of_mem hy
    have := h2 j (by omega)
    simpa [gE, hj] using this
  rw [this]
theorem itD_lt (l : List Itm) (key : Int) : -1 ≤ itD l key ∧ itD l key < l.length := by
  unfold itD
  cases h : l.findIdx? (fun y => decide (y.key = key)) with
  | none => simp; omega
  | some i =>
    have := (List.findIdx?_eq_some_iff_getElem.1 h).1
    simp; omega
def Dl.next (x : Dl) : Dl := if x.count ≤ x.i + 1 then ⟨x.th, x.cap, x.wd, x.ver, x.chunk, x.lo, x.hi, x.most, 0, x.i + 1, x.count, x.s, x.k, x.g, x.l⟩ else ⟨x.th, x.cap, x.wd, x.ver, x.chunk, x.lo, x.hi, x.most, 2, x.i + 1, x.count, x.s, x.k, x.g, x.l⟩
def Dl.past (x : Dl) : Prop := x.most < verD x.s ∨ 0 ≤ itD x.l x.k ∧ verD x.s < (gE x.l (itD x.l x.k)).ver
instance (x : Dl) : Decidable x.past := by unfold Dl.past; infer_instance
def Dl.seven (x : Dl) : Dl := if x.past then Dl.next ⟨x.th, x.cap, x.wd, x.ver, x.chunk, x.lo, x.hi, x.most, 7, x.i, x.count, x.s, x.k, x.g, x.l⟩ else ⟨x.th, x.cap, x.wd, x.ver, x.chunk, x.lo, x.hi, x.most, 7, x.i, x.count, x.s, x.k, x.g, x.l⟩
def posD (l : List Itm) (key : Int) : Nat := (l.takeWhile fun y => decide (y.key < key)).length
def putD (l : List Itm) (y : Itm) : List Itm := if 0 ≤ itD l y.key then l.set (itD l y.key).toNat y else l.take (posD l y.key) ++ [y] ++ l.drop (posD l y.key)
theorem putD_set {l : List Itm} {y : Itm} (h : 0 ≤ itD l y.key) : l.set (itD l y.key).toNat y = putD l y := by unfold putD; rw [if_pos h]
theorem row_set {l : List Itm} {y : Itm} {v : Value} {E : TypeId} (h : 0 ≤ itD l y.key) : Ent.row v E iK.sz l.length (iK.all (l.set (itD l y.key).toNat y)) = rowE iK E v (putD l y) := by rw [rowE, ← putD_set h, List.length_set]
theorem putD_ins {l : List Itm} {y : Itm} {k : Nat} (h : ¬ 0 ≤ itD l y.key) (hk : posD l y.key = k) : (([] ++ (l.drop 0).take (k - 0)) ++ [y]) ++ (l.drop k).take (l.length - k) = putD l y := by
  unfold putD; rw [if_neg h, hk]
  simp
  exact List.take_of_length_le (by simp)
theorem posD_of {l : List Itm} {key : Int} {k : Nat} (h1 : k ≤ l.length) (h2 : ∀ j : Nat, j < k → (gE l (j : Int)).key < key) (h3 : (decide ((k : Int) < (l.length : Int)) && decide ((gE l (k : Int)).key < key)) = false) : posD l key = k := by
  unfold posD
  induction l generalizing k with
  | nil => simp at h1; simp [h1]
  | cons x r ih =>
    rw [List.takeWhile_cons]
    cases k with
    | zero =>
      simp [gE] at h3
      simp [show ¬ x.key < key by omega]
    | succ k =>
      have h0 := h2 0 (by omega)
      simp [gE] at h0
      simp [h0]
      refine ih (by simpa using h1) (fun j hj => ?_) ?_
      · have := h2 (j + 1) (by omega); simpa [gE] using this
      · simpa [gE] using h3
theorem dl_New {a b c d chunk lo hi most : Int} : Fn Tryz.prog 26 [.agg #[.int .i64 a, .int .i64 b, .int .i64 c, .int .i64 d], .int .i64 chunk, .int .i64 lo, .int .i64 hi, .int .i64 most] ([]) ([]) (fun v N H => ∃ b1, v = .pointer (some ⟨b1, 0, none⟩) ∧ N = [dlB b1 (.slice none 0 0) (⟨a, b, c, d, chunk, lo, hi, most, 1, 0, 0, 0, 0, 0, []⟩ : Dl), rowE iK 43 (.slice none 0 0) []] ∧ H = []) := by
 refine Fn.enter Tryz.func26 (by kernel_rfl) rfl (n := 18) rfl rfl (fun w => ?_)
 refine W ?_
 refine At.box rfl rfl rfl (.t rfl) (fun b1 hb1 => ⟨.all, ?_⟩)
 refine W ?_
 refine eA rfl (R.build bt_63 (.k rfl (.k rfl (.k rfl (.k rfl (.k rfl (.kc .nil)))))) (.cons rfl (.cons rfl (.cons rfl (.cons rfl (.cons rfl (.cons rfl .nil)))))) rfl) ?_
 refine At.box rfl rfl rfl (.t rfl) (fun b2 hb2 => ⟨.all, ?_⟩)
 refine W ?_
 refine At.nilRow iK 43 ?_
 refine At.perm (List.Perm.swap _ _ _) ?_
 exact At.final (N' := [dlB b2 (.slice none 0 0) (⟨a, b, c, d, chunk, lo, hi, most, 1, 0, 0, 0, 0, 0, []⟩ : Dl), rowE iK 43 (.slice none 0 0) []]) rfl (.t rfl) sl (⟨b2, rfl, rfl, rfl⟩)
theorem dl_next {b : Nat} {Lv : Value} {x : Dl} (hx : -1 ≤ x.i ∧ x.i ≤ 100000) : Fn Tryz.prog 62 [.pointer (some ⟨b, 0, none⟩)] ([]) ([dlB b Lv x]) (IsM (.tuple #[]) [dlB b Lv x.next]) := by
 refine Fn.enter Tryz.func62 (by kernel_rfl) rfl (n := 25) rfl rfl (fun w => ?_)
 refine W ?_
 refine At.st1 rfl rfl sz_3 (.t rfl) (.t rfl) rfl rfl (.h U0) ⟨.all, ?_⟩
 refine W ?_
 refine At.st1 rfl rfl sz_3 (.t rfl) .c rfl rfl (.h U0) ⟨.all, ?_⟩
 refine W ?_
 refine At.drawK [tt 0, tt 1, tt 2, tt 3, tt 4, tt 5, tt 6, tt 7, tt 8] (by kernel_rfl) (by kernel_rfl) ?_
 refine Z ?_
 refine At.condD (.t rfl) (fun c1 => ?_) (fun c1 => ?_)
 ·
  refine W ?_
  refine At.st1 rfl rfl sz_3 (.t rfl) .c rfl rfl (.h U0) ⟨.all, ?_⟩
  refine W ?_
  exact At.final0 rfl (List.nil_sublist _) (⟨rfl, rfl, by unfold Dl.next; (rw [if_pos (by simpa using c1)]; rfl)⟩) _ (.inr rfl)
 ·
  refine W ?_
  exact At.final0 rfl (List.nil_sublist _) (⟨rfl, rfl, by unfold Dl.next; (rw [if_neg (by simpa using c1)]; rfl)⟩) _ (.inr rfl)
theorem dl_item {b : Nat} {Lv : Value} {x : Dl} {key : Int} (hL : x.l.length ≤ 1000000) : Fn Tryz.prog 91 [.pointer (some ⟨b, 0, none⟩), .int .i64 key] ([dlB b Lv x, rdE iK Lv x.l]) ([]) (IsV (.int .i64 (itD x.l key))) := by
 refine Fn.enter Tryz.func91 (by kernel_rfl) rfl (n := 26) rfl rfl (fun w => ?_)
 refine W ?_
 refine At.loop1 (fun (i : Nat) => i ≤ x.l.length ∧ ∀ j : Nat, j < i → (gE x.l (j : Int)).key ≠ key) (fun (i : Nat) => x.l.length - i) (fun (i : Nat) => [(0, true, .pointer (some ⟨b, 0, none⟩)), (1, true, .int .i64 key), (5, true, .int .i64 i)]) (fun (i : Nat) => []) (fun (i : Nat) => []) (0) ⟨Nat.zero_le _, fun j hj => absurd hj (Nat.not_lt_zero _)⟩ (.cons rfl (.cons rfl (.cons rfl .nil))) (List.Sublist.refl _) rfl (fun i hi => ?_)
 obtain ⟨hi1, hi2⟩ := hi
 refine Z ?_
 refine At.condD (.t rfl) (fun c1 => ?_) (fun c1 => ?_)
 ·
  refine Z ?_
  refine At.condD (.t rfl) (fun c2 => ?_) (fun c2 => ?_)
  ·
   refine W ?_
   exact fT rfl (.t rfl) (⟨congrArg (Value.int .i64) (by exact (itD_yes (by omega) c2 hi2).symm), rfl, rfl⟩)
  ·
   refine W ?_
   exact At.again1 (i + 1) ⟨by omega, fun j hj => (by rcases Nat.lt_succ_iff_lt_or_eq.1 hj with h | h; exact hi2 j h; subst h; exact c2)⟩ (by omega) (.cons rfl (.cons rfl (.cons rfl .nil))) (List.Sublist.refl _) rfl
 ·
  refine W ?_
  exact fT rfl (.t rfl) (⟨congrArg (Value.int .i64) (by exact (itD_no (by omega) hi2).symm), rfl, rfl⟩)
theorem dl_seven {b : Nat} {Lv : Value} {x : Dl} (hx : -1 ≤ x.i ∧ x.i ≤ 100000) (hs : -2305843009213693952 ≤ x.s ∧ x.s ≤ 2305843009213693952) (hL : x.l.length ≤ 1000000) : Fn Tryz.prog 63 [.pointer (some ⟨b, 0, none⟩)] ([rdE iK Lv x.l]) ([dlB b Lv x]) (IsM (.tuple #[]) [dlB b Lv x.seven]) := by
 refine Fn.enter Tryz.func63 (by kernel_rfl) rfl (n := 42) rfl rfl (fun w => ?_)
 have hit := itD_lt x.l x.k
 refine W ?_
 refine At.callVR rfl rfl rfl (.k rfl .nil) (.nil) (fun hg => r_Version (by omega)) .all ?_
 refine W ?_
 refine At.callVR rfl rfl rfl (.k rfl (.k rfl .nil)) (.blk (.st M1) (.cons (rS M0) .nil)) (fun hg => dl_item (x := x) (key := x.k) hL) .all ?_
 refine W ?_
 refine At.st1 rfl rfl sz_3 (.t rfl) .c rfl rfl (.h U0) ⟨.all, ?_⟩
 refine U ?_
 refine eA rfl (R.gtr (.t rfl) (.t rfl)) ?_
 refine U ?_
 refine eA rfl (R.geq (.s rfl) .c) ?_
 refine U ?_
 refine eA rfl (R.indexRd Tryz.underlying40 sz_43 (.s rfl) (rS M0) (.s rfl) (fun hg => (by ((simp [-List.length_eq_zero_iff] at hg; omega))))) ?_
 refine eA rfl (R.fieldRd fo_43_1 (.s rfl) (rS M0) (fun hg => (by ((simp [-List.length_eq_zero_iff] at hg; omega))))) ?_
 refine eA rfl (R.loadRd Tryz.underlying3 rfl (.s rfl) (rS M0) (fun hg => by exact Ek.getN rfl (by ((simp [-List.length_eq_zero_iff] at hg; omega))))) ?_
 refine eA rfl (R.lss (.s rfl) (.s rfl)) ?_
 refine eA rfl (R.pickAnd (.s rfl) rfl (by (intro hg h; rw [hg, h]; rfl))) ?_
 refine eA rfl (R.pickOr (.t rfl) rfl (by (intro hg h; rw [h]; rfl))) ?_
 refine U ?_
 refine At.cond (.t rfl) (fun c1 => ?_) (fun c1 => ?_)
 ·
  have hp : x.past := (by unfold Dl.past; simp at c1; omega)
  refine W ?_
  refine cM rfl rfl rfl (.k rfl .nil) rfl (.h (.take .nil)) .nil (dl_next (x := (⟨x.th, x.cap, x.wd, x.ver, x.chunk, x.lo, x.hi, x.most, 7, x.i, x.count, x.s, x.k, x.g, x.l⟩ : Dl)) hx) rfl .nil ⟨.all, ?_⟩
  refine W ?_
  exact At.final0 rfl (List.nil_sublist _) (⟨rfl, rfl, by unfold Dl.seven; (rw [if_pos hp]; done)⟩) _ (.inr rfl)
 ·
  have hp : ¬ x.past := (by unfold Dl.past; simp at c1; omega)
  refine W ?_
  exact At.final0 rfl (List.nil_sublist _) (⟨rfl, rfl, by unfold Dl.seven; (rw [if_neg hp]; rfl)⟩) _ (.inr rfl)
theorem dl_put {b : Nat} {Lv : Value} {x : Dl} {y : Itm} (hL : x.l.length ≤ 100000) : FnX Tryz.prog 65 [.pointer (some ⟨b, 0, none⟩), .agg #[.int .i64 y.key, .int .i64 y.ver, .int .i64 y.data]] ([]) ([dlB b Lv x, rowE iK 43 Lv x.l]) (fun v N => ∃ Lv2, v = .tuple #[] ∧ N = [rowE iK 43 Lv2 (putD x.l y), dlB b Lv2 x]) := by
 refine FnX.enter Tryz.func65 (by kernel_rfl) rfl (n := 69) rfl rfl (fun w df hds how => ?_)
 have hit := itD_lt x.l y.key
 refine W ?_
 refine At.box rfl rfl rfl (.t rfl) (fun b1 hb1 => ⟨.all, ?_⟩)
 refine W ?_
 refine At.callVR rfl rfl rfl (.k rfl (.k rfl .nil)) (.blk (.st M1) (.cons (wS M2) .nil)) (fun hg => dl_item (x := x) (key := y.key) (by omega)) .all ?_
 refine Z ?_
 refine At.condD (.t rfl) (fun c1 => ?_) (fun c1 => ?_)
 ·
  refine W ?_
  (refine At.nilRow iK 43 ?_; refine At.app (k := iK) rfl rfl rfl Tryz.underlying40 et_43 .c (.t rfl) (fun _ => by (exact U0)) (wS M3) (by (simp <;> omega)) (fun v1 => ⟨.all, ?_⟩))
  refine W ?_
  refine At.rowOne (v := v1) (M0) (fun h1v => ?_)
  refine At.st1 rfl rfl sz_40 (.t rfl) (.t rfl) h1v rfl (.n U2) ⟨.all, ?_⟩
  refine W ?_
  refine At.reRow (v := v1) (xs' := x.l) .here (List.nil_append _) ?_
  have hpos : 0 < x.l.length := (by omega)
  refine At.rowForm (v := v1) (.head _) hpos (fun gx capx hvx => ?_)
  subst hvx
  refine At.drawL ([]) [tt 0, tt 1, tt 2, tt 4] [tt 3, tt 5, tt 6] [ff 7] (fun _ h => nomatch h) (by kernel_rfl) (by kernel_rfl) ?_
  refine V ?_
  refine At.stage kI ?_
  refine V ?_
  refine At.stage Cl.none ?_
  refine At.stRow (k := iK) (y := y) rfl rfl sz_43 (.t rfl) (.t rfl) rfl (.n U0) (by omega) (by omega) ⟨Cl.none, ?_⟩
  refine W ?_
  refine At.re (congrArg (fun z => z :: _) (row_set c1)) ?_
  exact At.finalX0 (N' := [rowE iK 43 _ (putD x.l y), dlB b _ x]) hds how rfl sl (⟨_, rfl, rfl⟩) _ (.inl rfl)
 ·
  refine W ?_
  refine At.loop1 (fun (k : Nat) => k ≤ x.l.length ∧ ∀ j : Nat, j < k → (gE x.l (j : Int)).key < y.key) (fun (k : Nat) => x.l.length - k) (fun (k : Nat) => [(0, true, .pointer (some ⟨b, 0, none⟩)), (3, true, .pointer (some ⟨b1, 0, none⟩)), (5, true, .int .i64 k)]) (fun (k : Nat) => [.blk b1 (.cells (iK.enc y).toArray 43), dlB b Lv x, rowE iK 43 Lv x.l]) (fun (k : Nat) => []) (0) ⟨Nat.zero_le _, fun j hj => absurd hj (Nat.not_lt_zero _)⟩ (.cons rfl (.cons rfl (.cons rfl .nil))) (List.Sublist.refl _) rfl (fun k hi => ?_)
  obtain ⟨hk1, hk2⟩ := hi
  refine W ?_
  refine At.drawK [tt 0, tt 1, tt 2, tt 3, tt 4, tt 5, tt 6, tt 7, tt 8, tt 9, tt 10, tt 11, tt 12, tt 13, tt 14, tt 15, tt 16, tt 17, tt 18, tt 19] (by kernel_rfl) (by kernel_rfl) ?_
  refine U ?_
  refine sJ rfl (R.lenRd Tryz.underlying40 (.t rfl) (wK M2)) ?_
  refine sJ rfl (R.lss (.t rfl) (.t rfl)) ?_
  refine U ?_
  refine sJ rfl (R.indexRd Tryz.underlying40 sz_43 (.s rfl) (wK M2) (.s rfl) (fun hg => (by ((simp [-List.length_eq_zero_iff] at hg; omega))))) ?_
  refine sJ rfl (R.fieldRd fo_43_0 (.s rfl) (wK M2) (fun hg => (by ((simp [-List.length_eq_zero_iff] at hg; omega))))) ?_
  refine sJ rfl (R.loadRd Tryz.underlying3 rfl (.s rfl) (wK M2) (fun hg => by exact Ek.getN rfl (by ((simp [-List.length_eq_zero_iff] at hg; omega))))) ?_
  refine U ?_
  refine sJ rfl (R.lss (.s rfl) (.s rfl)) ?_
  refine sJ rfl (R.pickAnd (.t rfl) rfl (by (intro hg h; rw [h]; rfl))) ?_
  refine U ?_
  refine At.cond (.t rfl) (fun c2 => ?_) (fun c2 => ?_)
  ·
   refine W ?_
   exact At.again1 (k + 1) ⟨by simp at c2; omega, fun j hj => (by simp at c2; rcases Nat.lt_succ_iff_lt_or_eq.1 hj with h | h; exact hk2 j h; subst h; exact c2.2)⟩ (by simp at c2; omega) (.cons rfl (.cons rfl (.cons rfl .nil))) (List.Sublist.refl _) rfl
  ·
   refine W ?_
   let F52 : Value → Value → Value → Value → Fr := fun va vl vb vc => [(49, pt b 0), (50, pt b 0), (52, pt b 14), (54, iv (k : Int)), (55, true, cutV Lv 3 0 k), (56, true, va), (57, true, .agg (iK.enc y).toArray), (58, true, vl), (59, true, vb), (60, pt b 0), (62, pt b 14), (64, iv (k : Int)), (65, true, cutV Lv 3 k x.l.length), (66, true, vc), (68, pt b 14), (0, pt b 0)]
   refine At.dag [tt 0, tt 1, tt 2, tt 3, tt 5, tt 8, tt 11, tt 12, tt 13, tt 15] 11 (mT 21 [0, 1, 2, 3, 5, 8, 11, 12, 13, 15]) ([.blk b1 (.cells (iK.enc y).toArray 43), rowE iK 43 Lv x.l]) (keepOf sl) (by kernel_rfl) (by kernel_rfl) (fun G hnode hdone => ?_)
   have g0 : ∀ (va vl vb vc : Value), At w 69 [] (fs (F52 va vl vb vc) 65535) ([rowE iK 43 vc (((([] ++ (x.l.drop 0).take (k - 0)) ++ [y]) ++ (x.l.drop k).take (x.l.length - k))), .blk b1 (.cells (iK.enc y).toArray 43), dlB b vc x, rowE iK 43 Lv x.l]) ([]) (G 0 (mF 21 [])) := fun va vl vb vc => by
    refine hdone _ _ _ (by kernel_rfl) ?_
    refine At.reRow (xs' := putD x.l y) .here (putD_ins c1 (posD_of hk1 hk2 c2)) ?_
    exact At.finalX0 (N' := [rowE iK 43 vc (putD x.l y), dlB b vc x]) hds how rfl sl (⟨_, rfl, rfl⟩) _ (.inr rfl)
   have g1 : ∀ (va vl vb vc : Value), At w 69 [] (fs (F52 va vl vb vc) 65535) ([rowE iK 43 vc (((([] ++ (x.l.drop 0).take (k - 0)) ++ [y]) ++ (x.l.drop k).take (x.l.length - k))), .blk b1 (.cells (iK.enc y).toArray 43), dlB b Lv x, rowE iK 43 Lv x.l]) ([]) (G 1 (mF 21 [20])) := fun va vl vb vc => by
    refine hnode _ _ _ _ [(20, [], 0, (mF 21 []))] (by kernel_rfl) kz ?_
    ·
     refine At.rowOne (v := vc) (M0) (fun h1v => ?_)
     refine At.st1 rfl rfl sz_40 (.t rfl) (.t rfl) h1v rfl (.n U2) ⟨kz, ?_⟩
     refine W ?_
     exact wk (g0 va vl vb vc)
   have g2 : ∀ (va vl vb : Value), At w 69 [] (fs (F52 va vl vb .nilFunc) 40959) ([rowE iK 43 vb ((([] ++ (x.l.drop 0).take (k - 0)) ++ [y])), .blk b1 (.cells (iK.enc y).toArray 43), dlB b Lv x, rowE iK 43 Lv x.l]) ([]) (G 4 (mF 21 [17, 18, 19, 20])) := fun va vl vb => by
    refine hnode _ _ _ _ [(17, [tt 18, tt 19], 1, (mF 21 [20]))] (by kernel_rfl) kz ?_
    ·
     refine At.app (k := iK) rfl rfl rfl Tryz.underlying40 et_43 (.t rfl) (.t rfl) (fun _ => by (exact U0)) (RdIn.cutE (k := iK) (wS M3) _ _ (by omega) (by omega)) (by (simp <;> omega)) (fun v2 => ⟨kz, ?_⟩)
     refine W ?_
     exact wk (g1 va vl vb v2)
   have g3 : ∀ (va vl : Value), At w 69 [] (fs (F52 va vl .nilFunc .nilFunc) 40703) ([rowE iK 43 vl ([y]), rowE iK 43 va (([] ++ (x.l.drop 0).take (k - 0))), .blk b1 (.cells (iK.enc y).toArray 43), dlB b Lv x, rowE iK 43 Lv x.l]) ([]) (G 5 (mF 21 [10, 17, 18, 19, 20])) := fun va vl => by
    refine hnode _ _ _ _ [(10, [], 4, (mF 21 [17, 18, 19, 20]))] (by kernel_rfl) kz ?_
    ·
     refine At.app (k := iK) rfl rfl rfl Tryz.underlying40 et_43 (.t rfl) (.t rfl) (fun _ => by (exact U1)) (wS M0) (by (simp <;> omega)) (fun v2 => ⟨kz, ?_⟩)
     refine W ?_
     exact wk (g2 va vl v2)
   have g4 : ∀ (va vl vb : Value), At w 69 [] (fs (F52 va vl vb .nilFunc) 36863) ([rowE iK 43 vb ((([] ++ (x.l.drop 0).take (k - 0)) ++ [y])), .blk b1 (.cells (iK.enc y).toArray 43), dlB b Lv x, rowE iK 43 Lv x.l]) ([]) (G 6 (mF 21 [14, 16, 17, 18, 19, 20])) := fun va vl vb => by
    refine hnode _ _ _ _ [(14, [tt 16], 4, (mF 21 [17, 18, 19, 20]))] (by kernel_rfl) kz ?_
    ·
     refine WD ?_
     refine sC rfl kz (R.sliceRd Tryz.underlying40 sz_43 (.t rfl) (wK M1) (.t rfl) rfl gO) ?_
     refine W ?_
     exact wk (g2 va vl vb)
   have g5 : ∀ (va : Value), At w 69 [] (fs (F52 va .nilFunc .nilFunc .nilFunc) 40575) ([rowE iK 43 va (([] ++ (x.l.drop 0).take (k - 0))), .blk b1 (.cells (iK.enc y).toArray 43), dlB b Lv x, rowE iK 43 Lv x.l]) ([]) (G 6 (mF 21 [9, 10, 17, 18, 19, 20])) := fun va => by
    refine hnode _ _ _ _ [(9, [], 5, (mF 21 [10, 17, 18, 19, 20]))] (by kernel_rfl) kz ?_
    ·
     refine At.lit (k := iK) rfl rfl rfl Tryz.underlying40 et_43 (.k rfl .nil) (.cons rfl .nil) rfl rfl rfl (fun v2 => ⟨kz, ?_⟩)
     refine W ?_
     exact wk (g3 va v2)
   have g6 : ∀ (vl : Value), At w 69 [] (fs (F52 .nilFunc vl .nilFunc .nilFunc) 40671) ([rowE iK 43 vl ([y]), .blk b1 (.cells (iK.enc y).toArray 43), dlB b Lv x, rowE iK 43 Lv x.l]) ([]) (G 6 (mF 21 [7, 10, 17, 18, 19, 20])) := fun vl => by
    refine hnode _ _ _ _ [(7, [], 5, (mF 21 [10, 17, 18, 19, 20]))] (by kernel_rfl) kz ?_
    ·
     (refine At.nilRow iK 43 ?_; refine At.app (k := iK) rfl rfl rfl Tryz.underlying40 et_43 .c (.t rfl) (fun _ => by (exact U0)) (RdIn.cutE (k := iK) (wS M4) _ _ (by omega) (by omega)) (by (simp <;> omega)) (fun v2 => ⟨kz, ?_⟩))
     refine W ?_
     refine At.perm (List.Perm.swap _ _ _) ?_
     exact wk (g3 v2 vl)
   have g7 : ∀ (va vl : Value), At w 69 [] (fs (F52 va vl .nilFunc .nilFunc) 36607) ([rowE iK 43 vl ([y]), rowE iK 43 va (([] ++ (x.l.drop 0).take (k - 0))), .blk b1 (.cells (iK.enc y).toArray 43), dlB b Lv x, rowE iK 43 Lv x.l]) ([]) (G 7 (mF 21 [10, 14, 16, 17, 18, 19, 20])) := fun va vl => by
    refine hnode _ _ _ _ [(10, [], 6, (mF 21 [14, 16, 17, 18, 19, 20])), (14, [tt 16], 5, (mF 21 [10, 17, 18, 19, 20]))] (by kernel_rfl) kz ?_
    refine ⟨?_, ?_⟩
    ·
     refine At.app (k := iK) rfl rfl rfl Tryz.underlying40 et_43 (.t rfl) (.t rfl) (fun _ => by (exact U1)) (wS M0) (by (simp <;> omega)) (fun v2 => ⟨kz, ?_⟩)
     refine W ?_
     exact wk (g4 va vl v2)
    ·
     refine WD ?_
     refine sC rfl kz (R.sliceRd Tryz.underlying40 sz_43 (.t rfl) (wK M1) (.t rfl) rfl gO) ?_
     refine W ?_
     exact wk (g3 va vl)
   have g8 : ∀ (_ : True), At w 69 [] (fs (F52 .nilFunc .nilFunc .nilFunc .nilFunc) 40543) ([.blk b1 (.cells (iK.enc y).toArray 43), dlB b Lv x, rowE iK 43 Lv x.l]) ([]) (G 7 (mF 21 [7, 9, 10, 17, 18, 19, 20])) := fun _ => by
    refine hnode _ _ _ _ [(7, [], 6, (mF 21 [9, 10, 17, 18, 19, 20])), (9, [], 6, (mF 21 [7, 10, 17, 18, 19, 20]))] (by kernel_rfl) kz ?_
    refine ⟨?_, ?_⟩
    ·
     (refine At.nilRow iK 43 ?_; refine At.app (k := iK) rfl rfl rfl Tryz.underlying40 et_43 .c (.t rfl) (fun _ => by (exact U0)) (RdIn.cutE (k := iK) (wS M3) _ _ (by omega) (by omega)) (by (simp <;> omega)) (fun v2 => ⟨kz, ?_⟩))
     refine W ?_
     exact wk (g5 v2)
    ·
     refine At.lit (k := iK) rfl rfl rfl Tryz.underlying40 et_43 (.k rfl .nil) (.cons rfl .nil) rfl rfl rfl (fun v2 => ⟨kz, ?_⟩)
     refine W ?_
     exact wk (g6 v2)
   have g9 : ∀ (va : Value), At w 69 [] (fs (F52 va .nilFunc .nilFunc .nilFunc) 36479) ([rowE iK 43 va (([] ++ (x.l.drop 0).take (k - 0))), .blk b1 (.cells (iK.enc y).toArray 43), dlB b Lv x, rowE iK 43 Lv x.l]) ([]) (G 8 (mF 21 [9, 10, 14, 16, 17, 18, 19, 20])) := fun va => by
    refine hnode _ _ _ _ [(9, [], 7, (mF 21 [10, 14, 16, 17, 18, 19, 20])), (14, [tt 16], 6, (mF 21 [9, 10, 17, 18, 19, 20]))] (by kernel_rfl) kz ?_
    refine ⟨?_, ?_⟩
    ·
     refine At.lit (k := iK) rfl rfl rfl Tryz.underlying40 et_43 (.k rfl .nil) (.cons rfl .nil) rfl rfl rfl (fun v2 => ⟨kz, ?_⟩)
     refine W ?_
     exact wk (g7 va v2)
    ·
     refine WD ?_
     refine sC rfl kz (R.sliceRd Tryz.underlying40 sz_43 (.t rfl) (wK M1) (.t rfl) rfl gO) ?_
     refine W ?_
     exact wk (g5 va)
   have g10 : ∀ (vl : Value), At w 69 [] (fs (F52 .nilFunc vl .nilFunc .nilFunc) 36575) ([rowE iK 43 vl ([y]), .blk b1 (.cells (iK.enc y).toArray 43), dlB b Lv x, rowE iK 43 Lv x.l]) ([]) (G 8 (mF 21 [7, 10, 14, 16, 17, 18, 19, 20])) := fun vl => by
    refine hnode _ _ _ _ [(7, [], 7, (mF 21 [10, 14, 16, 17, 18, 19, 20])), (14, [tt 16], 6, (mF 21 [7, 10, 17, 18, 19, 20]))] (by kernel_rfl) kz ?_
    refine ⟨?_, ?_⟩
    ·
     (refine At.nilRow iK 43 ?_; refine At.app (k := iK) rfl rfl rfl Tryz.underlying40 et_43 .c (.t rfl) (fun _ => by (exact U0)) (RdIn.cutE (k := iK) (wS M4) _ _ (by omega) (by omega)) (by (simp <;> omega)) (fun v2 => ⟨kz, ?_⟩))
     refine W ?_
     refine At.perm (List.Perm.swap _ _ _) ?_
     exact wk (g7 v2 vl)
    ·
     refine WD ?_
     refine sC rfl kz (R.sliceRd Tryz.underlying40 sz_43 (.t rfl) (wK M1) (.t rfl) rfl gO) ?_
     refine W ?_
     exact wk (g6 vl)
   have g11 : ∀ (vl : Value), At w 69 [] (fs (F52 .nilFunc vl .nilFunc .nilFunc) 40655) ([rowE iK 43 vl ([y]), .blk b1 (.cells (iK.enc y).toArray 43), dlB b Lv x, rowE iK 43 Lv x.l]) ([]) (G 8 (mF 21 [4, 6, 7, 10, 17, 18, 19, 20])) := fun vl => by
    refine hnode _ _ _ _ [(4, [tt 6], 6, (mF 21 [7, 10, 17, 18, 19, 20]))] (by kernel_rfl) kz ?_
    ·
     refine WD ?_
     refine sC rfl kz (R.sliceRd Tryz.underlying40 sz_43 (.t rfl) (wK M1) rfl (.t rfl) gO) ?_
     refine W ?_
     exact wk (g6 vl)
   have g12 : ∀ (_ : True), At w 69 [] (fs (F52 .nilFunc .nilFunc .nilFunc .nilFunc) 36447) ([.blk b1 (.cells (iK.enc y).toArray 43), dlB b Lv x, rowE iK 43 Lv x.l]) ([]) (G 9 (mF 21 [7, 9, 10, 14, 16, 17, 18, 19, 20])) := fun _ => by
    refine hnode _ _ _ _ [(7, [], 8, (mF 21 [9, 10, 14, 16, 17, 18, 19, 20])), (9, [], 8, (mF 21 [7, 10, 14, 16, 17, 18, 19, 20])), (14, [tt 16], 7, (mF 21 [7, 9, 10, 17, 18, 19, 20]))] (by kernel_rfl) kz ?_
    refine ⟨?_, ?_, ?_⟩
    ·
     (refine At.nilRow iK 43 ?_; refine At.app (k := iK) rfl rfl rfl Tryz.underlying40 et_43 .c (.t rfl) (fun _ => by (exact U0)) (RdIn.cutE (k := iK) (wS M3) _ _ (by omega) (by omega)) (by (simp <;> omega)) (fun v2 => ⟨kz, ?_⟩))
     refine W ?_
     exact wk (g9 v2)
    ·
     refine At.lit (k := iK) rfl rfl rfl Tryz.underlying40 et_43 (.k rfl .nil) (.cons rfl .nil) rfl rfl rfl (fun v2 => ⟨kz, ?_⟩)
     refine W ?_
     exact wk (g10 v2)
    ·
     refine WD ?_
     refine sC rfl kz (R.sliceRd Tryz.underlying40 sz_43 (.t rfl) (wK M1) (.t rfl) rfl gO) ?_
     refine W ?_
     exact wk (g8 trivial)
   have g13 : ∀ (_ : True), At w 69 [] (fs (F52 .nilFunc .nilFunc .nilFunc .nilFunc) 40527) ([.blk b1 (.cells (iK.enc y).toArray 43), dlB b Lv x, rowE iK 43 Lv x.l]) ([]) (G 9 (mF 21 [4, 6, 7, 9, 10, 17, 18, 19, 20])) := fun _ => by
    refine hnode _ _ _ _ [(4, [tt 6], 7, (mF 21 [7, 9, 10, 17, 18, 19, 20])), (9, [], 8, (mF 21 [4, 6, 7, 10, 17, 18, 19, 20]))] (by kernel_rfl) kz ?_
    refine ⟨?_, ?_⟩
    ·
     refine WD ?_
     refine sC rfl kz (R.sliceRd Tryz.underlying40 sz_43 (.t rfl) (wK M1) rfl (.t rfl) gO) ?_
     refine W ?_
     exact wk (g8 trivial)
    ·
     refine At.lit (k := iK) rfl rfl rfl Tryz.underlying40 et_43 (.k rfl .nil) (.cons rfl .nil) rfl rfl rfl (fun v2 => ⟨kz, ?_⟩)
     refine W ?_
     exact wk (g11 v2)
   have g14 : ∀ (vl : Value), At w 69 [] (fs (F52 .nilFunc vl .nilFunc .nilFunc) 36559) ([rowE iK 43 vl ([y]), .blk b1 (.cells (iK.enc y).toArray 43), dlB b Lv x, rowE iK 43 Lv x.l]) ([]) (G 10 (mF 21 [4, 6, 7, 10, 14, 16, 17, 18, 19, 20])) := fun vl => by
    refine hnode _ _ _ _ [(4, [tt 6], 8, (mF 21 [7, 10, 14, 16, 17, 18, 19, 20])), (14, [tt 16], 8, (mF 21 [4, 6, 7, 10, 17, 18, 19, 20]))] (by kernel_rfl) kz ?_
    refine ⟨?_, ?_⟩
    ·
     refine WD ?_
     refine sC rfl kz (R.sliceRd Tryz.underlying40 sz_43 (.t rfl) (wK M1) rfl (.t rfl) gO) ?_
     refine W ?_
     exact wk (g10 vl)
    ·
     refine WD ?_
     refine sC rfl kz (R.sliceRd Tryz.underlying40 sz_43 (.t rfl) (wK M1) (.t rfl) rfl gO) ?_
     refine W ?_
     exact wk (g11 vl)
   have g15 : ∀ (_ : True), At w 69 [] (fs (F52 .nilFunc .nilFunc .nilFunc .nilFunc) 36431) ([.blk b1 (.cells (iK.enc y).toArray 43), dlB b Lv x, rowE iK 43 Lv x.l]) ([]) (G 11 (mT 21 [0, 1, 2, 3, 5, 8, 11, 12, 13, 15])) := fun _ => by
    refine hnode _ _ _ _ [(4, [tt 6], 9, (mF 21 [7, 9, 10, 14, 16, 17, 18, 19, 20])), (9, [], 10, (mF 21 [4, 6, 7, 10, 14, 16, 17, 18, 19, 20])), (14, [tt 16], 9, (mF 21 [4, 6, 7, 9, 10, 17, 18, 19, 20]))] (by kernel_rfl) kz ?_
    refine ⟨?_, ?_, ?_⟩
    ·
     refine WD ?_
     refine sC rfl kz (R.sliceRd Tryz.underlying40 sz_43 (.t rfl) (wK M1) rfl (.t rfl) gO) ?_
     refine W ?_
     exact wk (g12 trivial)
    ·
     refine At.lit (k := iK) rfl rfl rfl Tryz.underlying40 et_43 (.k rfl .nil) (.cons rfl .nil) rfl rfl rfl (fun v2 => ⟨kz, ?_⟩)
     refine W ?_
     exact wk (g14 v2)
    ·
     refine WD ?_
     refine sC rfl kz (R.sliceRd Tryz.underlying40 sz_43 (.t rfl) (wK M1) (.t rfl) rfl gO) ?_
     refine W ?_
     exact wk (g13 trivial)
   refine W ?_
   exact wk (g15 trivial)
end Go.Proofs.YtbolanigdkgbdaaGreat
namespace Go.Proofs.YtbolanigdkgbdaaGreat
open Go Go.RowKit
set_option maxRecDepth 10000
set_option linter.unusedVariables false
set_option maxHeartbeats 1000000
theorem fo_63_0 : fieldOff? Tryz.prog 63 0 = some 0 := by kernel_rfl
theorem fo_63_1 : fieldOff? Tryz.prog 63 1 = some 4 := by kernel_rfl
theorem fo_63_10 : fieldOff? Tryz.prog 63 10 = some 13 := by kernel_rfl
theorem fo_63_2 : fieldOff? Tryz.prog 63 2 = some 5 := by kernel_rfl
theorem fo_63_3 : fieldOff? Tryz.prog 63 3 = some 6 := by kernel_rfl
structure Dl.ok (x : Dl) : Prop where
  chunk : -1152921504606846976 ≤ x.chunk ∧ x.chunk ≤ 1152921504606846976
  ii : -1 ≤ x.i ∧ x.i ≤ 1000
  ss : -1152921504606846976 ≤ x.s ∧ x.s ≤ 1152921504606846976
  gg : -1152921504606846976 ≤ x.g ∧ x.g ≤ 1152921504606846976
theorem Dl.next_l (x : Dl) : x.next.l = x.l := by unfold Dl.next; split <;> rfl
theorem Dl.seven_l (x : Dl) : x.seven.l = x.l := by
  unfold Dl.seven; split
  · rw [Dl.next_l]
  · rfl
def Dl.step (x : Dl) (r : Rr) : Dl × Rr :=
  if x.line = 1 then ((⟨x.th, x.cap, x.wd, x.ver, x.chunk, x.lo, x.hi, x.most, x.line, -1, (max 0 (min (r.peek (x.chunk + 1)) x.cap)), x.s, x.k, x.g, x.l⟩ : Dl).next, r.load (x.chunk + 1))
  else if x.line = 2 then if (r.peek (x.chunk + 7 + 3 * x.i)) ≤ 0 ∨ (r.peek (x.chunk + 7 + 3 * x.i)) = 2 then ((⟨x.th, x.cap, x.wd, x.ver, x.chunk, x.lo, x.hi, x.most, 3, x.i, x.count, (r.peek (x.chunk + 7 + 3 * x.i)), x.k, x.g, x.l⟩ : Dl).next, r.load (x.chunk + 7 + 3 * x.i)) else ((⟨x.th, x.cap, x.wd, x.ver, x.chunk, x.lo, x.hi, x.most, 3, x.i, x.count, (r.peek (x.chunk + 7 + 3 * x.i)), x.k, x.g, x.l⟩ : Dl), r.load (x.chunk + 7 + 3 * x.i))
  else if x.line = 3 then if (r.peek ((x.chunk + 7 + 3 * x.i) + 1)) < x.lo ∨ x.hi < (r.peek ((x.chunk + 7 + 3 * x.i) + 1)) then ((⟨x.th, x.cap, x.wd, x.ver, x.chunk, x.lo, x.hi, x.most, x.line, x.i, x.count, x.s, (r.peek ((x.chunk + 7 + 3 * x.i) + 1)), x.g, x.l⟩ : Dl).next, r.load ((x.chunk + 7 + 3 * x.i) + 1)) else if x.s = 1 then ((⟨x.th, x.cap, x.wd, x.ver, x.chunk, x.lo, x.hi, x.most, 4, x.i, x.count, x.s, (r.peek ((x.chunk + 7 + 3 * x.i) + 1)), x.g, x.l⟩ : Dl), r.load ((x.chunk + 7 + 3 * x.i) + 1)) else ((⟨x.th, x.cap, x.wd, x.ver, x.chunk, x.lo, x.hi, x.most, x.line, x.i, x.count, x.s, (r.peek ((x.chunk + 7 + 3 * x.i) + 1)), x.g, x.l⟩ : Dl).seven, r.load ((x.chunk + 7 + 3 * x.i) + 1))
  else if x.line = 4 then ((⟨x.th, x.cap, x.wd, x.ver, x.chunk, x.lo, x.hi, x.most, 5, x.i, x.count, x.s, x.k, (r.peek 1), x.l⟩ : Dl), r.load 1)
  else if x.line = 5 then ((⟨x.th, x.cap, x.wd, x.ver, x.chunk, x.lo, x.hi, x.most, 6, x.i, x.count, x.s, x.k, x.g, x.l⟩ : Dl), r.swap (x.chunk + 7 + 3 * x.i) 1 (min (max x.g 0) 16777212 + 3))
  else if x.line = 6 then if (r.peek (x.chunk + 7 + 3 * x.i)) < 3 then ((⟨x.th, x.cap, x.wd, x.ver, x.chunk, x.lo, x.hi, x.most, x.line, x.i, x.count, (r.peek (x.chunk + 7 + 3 * x.i)), x.k, x.g, x.l⟩ : Dl).next, r.load (x.chunk + 7 + 3 * x.i)) else ((⟨x.th, x.cap, x.wd, x.ver, x.chunk, x.lo, x.hi, x.most, x.line, x.i, x.count, (r.peek (x.chunk + 7 + 3 * x.i)), x.k, x.g, x.l⟩ : Dl).seven, r.load (x.chunk + 7 + 3 * x.i))
  else if x.line = 7 then ((⟨x.th, x.cap, x.wd, x.ver, x.chunk, x.lo, x.hi, x.most, x.line, x.i, x.count, x.s, x.k, x.g, (putD x.l ⟨x.k, verD x.s, r.peek ((x.chunk + 7 + 3 * x.i) + 2)⟩)⟩ : Dl).next, r.load ((x.chunk + 7 + 3 * x.i) + 2))
  else (x, r)
theorem Dl.step_1 {x : Dl} {r : Rr} (h : x.line = 1)  : Dl.step x r = ((⟨x.th, x.cap, x.wd, x.ver, x.chunk, x.lo, x.hi, x.most, x.line, -1, (max 0 (min (r.peek (x.chunk + 1)) x.cap)), x.s, x.k, x.g, x.l⟩ : Dl).next, r.load (x.chunk + 1)) := by unfold Dl.step; rw [if_pos h]
theorem Dl.step_2a {x : Dl} {r : Rr} (h : x.line = 2) (h0 : (r.peek (x.chunk + 7 + 3 * x.i)) ≤ 0 ∨ (r.peek (x.chunk + 7 + 3 * x.i)) = 2) : Dl.step x r = ((⟨x.th, x.cap, x.wd, x.ver, x.chunk, x.lo, x.hi, x.most, 3, x.i, x.count, (r.peek (x.chunk + 7 + 3 * x.i)), x.k, x.g, x.l⟩ : Dl).next, r.load (x.chunk + 7 + 3 * x.i)) := by unfold Dl.step; rw [if_neg (by omega), if_pos h, if_pos h0]
theorem Dl.step_2b {x : Dl} {r : Rr} (h : x.line = 2) (h0 : ¬ ((r.peek (x.chunk + 7 + 3 * x.i)) ≤ 0 ∨ (r.peek (x.chunk + 7 + 3 * x.i)) = 2)) : Dl.step x r = ((⟨x.th, x.cap, x.wd, x.ver, x.chunk, x.lo, x.hi, x.most, 3, x.i, x.count, (r.peek (x.chunk + 7 + 3 * x.i)), x.k, x.g, x.l⟩ : Dl), r.load (x.chunk + 7 + 3 * x.i)) := by unfold Dl.step; rw [if_neg (by omega), if_pos h, if_neg h0]
theorem Dl.step_3a {x : Dl} {r : Rr} (h : x.line = 3) (h0 : (r.peek ((x.chunk + 7 + 3 * x.i) + 1)) < x.lo ∨ x.hi < (r.peek ((x.chunk + 7 + 3 * x.i) + 1))) : Dl.step x r = ((⟨x.th, x.cap, x.wd, x.ver, x.chunk, x.lo, x.hi, x.most, x.line, x.i, x.count, x.s, (r.peek ((x.chunk + 7 + 3 * x.i) + 1)), x.g, x.l⟩ : Dl).next, r.load ((x.chunk + 7 + 3 * x.i) + 1)) := by unfold Dl.step; rw [if_neg (by omega), if_neg (by omega), if_pos h, if_pos h0]
theorem Dl.step_3b {x : Dl} {r : Rr} (h : x.line = 3) (h0 : ¬ ((r.peek ((x.chunk + 7 + 3 * x.i) + 1)) < x.lo ∨ x.hi < (r.peek ((x.chunk + 7 + 3 * x.i) + 1)))) (h1 : x.s = 1) : Dl.step x r = ((⟨x.th, x.cap, x.wd, x.ver, x.chunk, x.lo, x.hi, x.most, 4, x.i, x.count, x.s, (r.peek ((x.chunk + 7 + 3 * x.i) + 1)), x.g, x.l⟩ : Dl), r.load ((x.chunk + 7 + 3 * x.i) + 1)) := by unfold Dl.step; rw [if_neg (by omega), if_neg (by omega), if_pos h, if_neg h0, if_pos h1]
theorem Dl.step_3c {x : Dl} {r : Rr} (h : x.line = 3) (h0 : ¬ ((r.peek ((x.chunk + 7 + 3 * x.i) + 1)) < x.lo ∨ x.hi < (r.peek ((x.chunk + 7 + 3 * x.i) + 1)))) (h1 : ¬ (x.s = 1)) : Dl.step x r = ((⟨x.th, x.cap, x.wd, x.ver, x.chunk, x.lo, x.hi, x.most, x.line, x.i, x.count, x.s, (r.peek ((x.chunk + 7 + 3 * x.i) + 1)), x.g, x.l⟩ : Dl).seven, r.load ((x.chunk + 7 + 3 * x.i) + 1)) := by unfold Dl.step; rw [if_neg (by omega), if_neg (by omega), if_pos h, if_neg h0, if_neg h1]
theorem Dl.step_4 {x : Dl} {r : Rr} (h : x.line = 4)  : Dl.step x r = ((⟨x.th, x.cap, x.wd, x.ver, x.chunk, x.lo, x.hi, x.most, 5, x.i, x.count, x.s, x.k, (r.peek 1), x.l⟩ : Dl), r.load 1) := by unfold Dl.step; rw [if_neg (by omega), if_neg (by omega), if_neg (by omega), if_pos h]
theorem Dl.step_5 {x : Dl} {r : Rr} (h : x.line = 5)  : Dl.step x r = ((⟨x.th, x.cap, x.wd, x.ver, x.chunk, x.lo, x.hi, x.most, 6, x.i, x.count, x.s, x.k, x.g, x.l⟩ : Dl), r.swap (x.chunk + 7 + 3 * x.i) 1 (min (max x.g 0) 16777212 + 3)) := by unfold Dl.step; rw [if_neg (by omega), if_neg (by omega), if_neg (by omega), if_neg (by omega), if_pos h]
theorem Dl.step_6a {x : Dl} {r : Rr} (h : x.line = 6) (h0 : (r.peek (x.chunk + 7 + 3 * x.i)) < 3) : Dl.step x r = ((⟨x.th, x.cap, x.wd, x.ver, x.chunk, x.lo, x.hi, x.most, x.line, x.i, x.count, (r.peek (x.chunk + 7 + 3 * x.i)), x.k, x.g, x.l⟩ : Dl).next, r.load (x.chunk + 7 + 3 * x.i)) := by unfold Dl.step; rw [if_neg (by omega), if_neg (by omega), if_neg (by omega), if_neg (by omega), if_neg (by omega), if_pos h, if_pos h0]
theorem Dl.step_6b {x : Dl} {r : Rr} (h : x.line = 6) (h0 : ¬ ((r.peek (x.chunk + 7 + 3 * x.i)) < 3)) : Dl.step x r = ((⟨x.th, x.cap, x.wd, x.ver, x.chunk, x.lo, x.hi, x.most, x.line, x.i, x.count, (r.peek (x.chunk + 7 + 3 * x.i)), x.k, x.g, x.l⟩ : Dl).seven, r.load (x.chunk + 7 + 3 * x.i)) := by unfold Dl.step; rw [if_neg (by omega), if_neg (by omega), if_neg (by omega), if_neg (by omega), if_neg (by omega), if_pos h, if_neg h0]
theorem Dl.step_7 {x : Dl} {r : Rr} (h : x.line = 7)  : Dl.step x r = ((⟨x.th, x.cap, x.wd, x.ver, x.chunk, x.lo, x.hi, x.most, x.line, x.i, x.count, x.s, x.k, x.g, (putD x.l ⟨x.k, verD x.s, r.peek ((x.chunk + 7 + 3 * x.i) + 2)⟩)⟩ : Dl).next, r.load ((x.chunk + 7 + 3 * x.i) + 2)) := by unfold Dl.step; rw [if_neg (by omega), if_neg (by omega), if_neg (by omega), if_neg (by omega), if_neg (by omega), if_neg (by omega), if_pos h]
theorem Dl.step_o {x : Dl} {r : Rr} (h1 : ¬ x.line = 1) (h2 : ¬ x.line = 2) (h3 : ¬ x.line = 3) (h4 : ¬ x.line = 4) (h5 : ¬ x.line = 5) (h6 : ¬ x.line = 6) (h7 : ¬ x.line = 7) : Dl.step x r = (x, r) := by unfold Dl.step; rw [if_neg h1, if_neg h2, if_neg h3, if_neg h4, if_neg h5, if_neg h6, if_neg h7]
theorem dl_Step {b ba n : Nat} {wv Lv : Value} {x : Dl} {r : Rr} (hx : x.ok) (hL : x.l.length ≤ 10000) (hn : r.w.length = n) (hN : n ≤ 1000000) (hf : r.few) (hw : r.mid 1152921504606846976) : FnX Tryz.prog 27 [.pointer (some ⟨b, 0, none⟩), .pointer (some ⟨ba, 0, none⟩)] ([]) ([dlB b Lv x, rowE iK 43 Lv x.l, raB ba wv r, raW wv n r]) (fun v N => ∃ Lv2, v = .bool (decide ((x.step r).1.line = 0)) ∧ N = [dlB b Lv2 (x.step r).1, rowE iK 43 Lv2 (x.step r).1.l, raB ba wv (x.step r).2, raW wv n (x.step r).2]) := by
 refine FnX.enter Tryz.func27 (by kernel_rfl) rfl (n := 176) rfl rfl (fun w df hds how => ?_)
 have hx0 := hx
 obtain ⟨hx1, hx2, hx3, hx4⟩ := hx
 have hpk := Rr.peek_mid hw (by decide) (x.chunk + 7 + 3 * x.i)
 have hpk1 := Rr.peek_mid hw (by decide) ((x.chunk + 7 + 3 * x.i) + 1)
 refine W ?_
 refine At.drawK [tt 0, tt 1, tt 2, tt 3, tt 4, tt 5, tt 6, tt 7, ff 8, tt 9] (by kernel_rfl) (by kernel_rfl) ?_
 refine W ?_
 refine At.callVR rfl rfl rfl (.k rfl (.k rfl .nil)) (.nil) (fun hg => r_StateAt (by omega) (by omega)) kI ?_
 refine Z ?_
 refine At.condD (.t rfl) (fun c1 => ?_) (fun c1 => ?_)
 ·
  have hl1 : x.line = 1 := (by simpa using c1); have hst := Dl.step_1 (r := r) hl1 
  refine W ?_
  refine At.drawM ([dlB b Lv x]) ([]) [tt 0, tt 1, tt 2, tt 3, tt 4, tt 5, tt 9, tt 10, tt 11, tt 12] [tt 6, tt 7, tt 13, ff 8, tt 14, tt 15] [tt 16, tt 17, ff 18, tt 19, tt 20, ff 21] (keepOf sl) (fun _ h => nomatch h) (by kernel_rfl) (by kernel_rfl) ?_
  refine V ?_
  refine At.stage kz ?_
  refine W ?_
  refine cM rfl rfl rfl (.k rfl (.k rfl .nil)) rfl (.n (.skip (.skip (.take (.take .nil))))) .nil (r_Load (r := r) (i := x.chunk + 1) hn hN hf) keysRa .nil ⟨kz, ?_⟩
  refine VZ ?_
  refine At.stage Cl.none ?_
  refine W ?_
  refine At.st1 rfl rfl sz_3 (.t rfl) (.t rfl) rfl rfl (.n U0) ⟨Cl.none, ?_⟩
  refine W ?_
  refine At.st1 rfl rfl sz_3 (.t rfl) .c rfl rfl (.n U0) ⟨Cl.none, ?_⟩
  refine W ?_
  refine cM rfl rfl rfl (.k rfl .nil) rfl (.n (.take .nil)) .nil (dl_next (x := (⟨x.th, x.cap, x.wd, x.ver, x.chunk, x.lo, x.hi, x.most, x.line, -1, (max 0 (min (r.peek (x.chunk + 1)) x.cap)), x.s, x.k, x.g, x.l⟩ : Dl)) (by dsimp only; omega)) rfl .nil ⟨.all, ?_⟩
  refine Z ?_
  exact At.finalX (N' := [.blk b (.cells _ 63), rowE iK 43 Lv x.l, .blk ba (.cells _ 59), .row wv _ 1 n _]) hds how rfl (.t rfl) (List.Sublist.refl _) (⟨_, by (rw [hst]; done), by (rw [hst, Dl.next_l]; done)⟩)
 ·
  refine Z ?_
  refine At.condD (.t rfl) (fun c2 => ?_) (fun c2 => ?_)
  ·
   have hl2 : x.line = 2 := (by simpa using c2)
   refine W ?_
   refine cM rfl rfl rfl (.k rfl (.k rfl .nil)) rfl (.n (.skip (.skip (.take (.take .nil))))) .nil (r_Load (r := r) (i := (x.chunk + 7 + 3 * x.i)) hn hN hf) keysRa .nil ⟨.all, ?_⟩
   refine W ?_
   refine At.st1 rfl rfl sz_3 (.t rfl) (.t rfl) rfl rfl (.n U0) ⟨.all, ?_⟩
   refine W ?_
   refine At.st1 rfl rfl sz_3 (.t rfl) .c rfl rfl (.n U0) ⟨.all, ?_⟩
   refine Z ?_
   refine At.cond (.t rfl) (fun c3 => ?_) (fun c3 => ?_)
   ·
    have hst := Dl.step_2a (r := r) hl2 (by simp at c3; omega)
    refine W ?_
    refine cM rfl rfl rfl (.k rfl .nil) rfl (.n (.take .nil)) .nil (dl_next (x := (⟨x.th, x.cap, x.wd, x.ver, x.chunk, x.lo, x.hi, x.most, 3, x.i, x.count, (r.peek (x.chunk + 7 + 3 * x.i)), x.k, x.g, x.l⟩ : Dl)) (by dsimp only; omega)) rfl .nil ⟨.all, ?_⟩
    refine Z ?_
    exact At.finalX (N' := [.blk b (.cells _ 63), rowE iK 43 Lv x.l, .blk ba (.cells _ 59), .row wv _ 1 n _]) hds how rfl (.t rfl) (List.Sublist.refl _) (⟨_, by (rw [hst]; done), by (rw [hst, Dl.next_l]; done)⟩)
   ·
    have hst := Dl.step_2b (r := r) hl2 (by simp at c3; omega)
    refine Y ?_
    exact At.finalX (N' := [.blk b (.cells _ 63), rowE iK 43 Lv x.l, .blk ba (.cells _ 59), .row wv _ 1 n _]) hds how rfl (.t rfl) (List.Sublist.refl _) (⟨_, by (rw [hst]; rfl), by (rw [hst]; rfl)⟩)
  ·
   refine Z ?_
   refine At.condD (.t rfl) (fun c4 => ?_) (fun c4 => ?_)
   ·
    have hl3 : x.line = 3 := (by simpa using c4)
    refine W ?_
    refine cM rfl rfl rfl (.k rfl (.k rfl .nil)) rfl (.n (.skip (.skip (.take (.take .nil))))) .nil (r_Load (r := r) (i := (x.chunk + 7 + 3 * x.i) + 1) hn hN hf) keysRa .nil ⟨.all, ?_⟩
    refine W ?_
    refine At.st1 rfl rfl sz_3 (.t rfl) (.t rfl) rfl rfl (.n U0) ⟨.all, ?_⟩
    refine W ?_
    refine At.drawK [tt 0, tt 1, tt 2, tt 3, tt 4, tt 5, tt 6, tt 7, tt 8, tt 9, tt 10, tt 11, tt 12, tt 13, tt 14, tt 15, tt 16, tt 17, tt 18, tt 19, tt 20] (by kernel_rfl) (by kernel_rfl) ?_
    refine Z ?_
    refine At.cond (.t rfl) (fun c5 => ?_) (fun c5 => ?_)
    ·
     have hst := Dl.step_3a (r := r) hl3 (by simp at c5; omega)
     refine W ?_
     refine cM rfl rfl rfl (.k rfl .nil) rfl (.n (.take .nil)) .nil (dl_next (x := (⟨x.th, x.cap, x.wd, x.ver, x.chunk, x.lo, x.hi, x.most, x.line, x.i, x.count, x.s, (r.peek ((x.chunk + 7 + 3 * x.i) + 1)), x.g, x.l⟩ : Dl)) (by dsimp only; omega)) rfl .nil ⟨.all, ?_⟩
     refine Z ?_
     exact At.finalX (N' := [.blk b (.cells _ 63), rowE iK 43 Lv x.l, .blk ba (.cells _ 59), .row wv _ 1 n _]) hds how rfl (.t rfl) (List.Sublist.refl _) (⟨_, by (rw [hst]; done), by (rw [hst, Dl.next_l]; done)⟩)
    ·
     refine Z ?_
     refine At.condD (.t rfl) (fun c6 => ?_) (fun c6 => ?_)
     ·
      have hst := Dl.step_3b (r := r) hl3 (by simp at c5; omega) (by simpa using c6)
      refine W ?_
      refine At.st1 rfl rfl sz_3 (.t rfl) .c rfl rfl (.n U0) ⟨.all, ?_⟩
      refine Y ?_
      exact At.finalX (N' := [.blk b (.cells _ 63), rowE iK 43 Lv x.l, .blk ba (.cells _ 59), .row wv _ 1 n _]) hds how rfl (.t rfl) (List.Sublist.refl _) (⟨_, by (rw [hst]; rfl), by (rw [hst]; rfl)⟩)
     ·
      have hst := Dl.step_3c (r := r) hl3 (by simp at c5; omega) (by simpa using c6)
      refine W ?_
      refine cM rfl rfl rfl (.k rfl .nil) rfl (.n (.take .nil)) (.cons (wS M1) .nil) (dl_seven (x := (⟨x.th, x.cap, x.wd, x.ver, x.chunk, x.lo, x.hi, x.most, x.line, x.i, x.count, x.s, (r.peek ((x.chunk + 7 + 3 * x.i) + 1)), x.g, x.l⟩ : Dl)) (by dsimp only; omega) (by dsimp only; omega) (by dsimp only; omega)) rfl (Aprt.row (E := 43) (.inl sl)) ⟨.all, ?_⟩
      refine Z ?_
      exact At.finalX (N' := [.blk b (.cells _ 63), rowE iK 43 Lv x.l, .blk ba (.cells _ 59), .row wv _ 1 n _]) hds how rfl (.t rfl) (List.Sublist.refl _) (⟨_, by (rw [hst]; done), by (rw [hst, Dl.seven_l]; done)⟩)
   ·
    refine Z ?_
    refine At.condD (.t rfl) (fun c7 => ?_) (fun c7 => ?_)
    ·
     have hl4 : x.line = 4 := (by simpa using c7); have hst := Dl.step_4 (r := r) hl4 
     refine W ?_
     refine cM rfl rfl rfl (.k rfl (.kc .nil)) rfl (.n (.skip (.skip (.take (.take .nil))))) .nil (r_Load (r := r) (i := 1) hn hN hf) keysRa .nil ⟨.all, ?_⟩
     refine W ?_
     refine At.st1 rfl rfl sz_3 (.t rfl) (.t rfl) rfl rfl (.n U0) ⟨.all, ?_⟩
     refine W ?_
     refine At.st1 rfl rfl sz_3 (.t rfl) .c rfl rfl (.n U0) ⟨.all, ?_⟩
     refine Y ?_
     exact At.finalX (N' := [.blk b (.cells _ 63), rowE iK 43 Lv x.l, .blk ba (.cells _ 59), .row wv _ 1 n _]) hds how rfl (.t rfl) (List.Sublist.refl _) (⟨_, by (rw [hst]; rfl), by (rw [hst]; rfl)⟩)
    ·
     refine Z ?_
     refine At.condD (.t rfl) (fun c8 => ?_) (fun c8 => ?_)
     ·
      have hl5 : x.line = 5 := (by simpa using c8); have hst := Dl.step_5 (r := r) hl5 
      refine W ?_
      refine At.callVR rfl rfl rfl (.k rfl .nil) (.nil) (fun hg => r_State) .all ?_
      refine cM rfl rfl rfl (.k rfl (.k rfl (.kc (.k rfl .nil)))) rfl (.n (.skip (.skip (.take (.take .nil))))) .nil (r_Swap (r := r) (i := (x.chunk + 7 + 3 * x.i)) (o := 1) (x := min (max x.g 0) 16777212 + 3) hn hN hf) keysRa .nil ⟨.all, ?_⟩
      refine W ?_
      refine At.st1 rfl rfl sz_3 (.t rfl) .c rfl rfl (.n U0) ⟨.all, ?_⟩
      refine Y ?_
      exact At.finalX (N' := [.blk b (.cells _ 63), rowE iK 43 Lv x.l, .blk ba (.cells _ 59), .row wv _ 1 n _]) hds how rfl (.t rfl) (List.Sublist.refl _) (⟨_, by (rw [hst]; rfl), by (rw [hst]; rfl)⟩)
     ·
      refine Z ?_
      refine At.condD (.t rfl) (fun c9 => ?_) (fun c9 => ?_)
      ·
       have hl6 : x.line = 6 := (by simpa using c9)
       refine W ?_
       refine cM rfl rfl rfl (.k rfl (.k rfl .nil)) rfl (.n (.skip (.skip (.take (.take .nil))))) .nil (r_Load (r := r) (i := (x.chunk + 7 + 3 * x.i)) hn hN hf) keysRa .nil ⟨.all, ?_⟩
       refine W ?_
       refine At.st1 rfl rfl sz_3 (.t rfl) (.t rfl) rfl rfl (.n U0) ⟨.all, ?_⟩
       refine Z ?_
       refine At.condD (.t rfl) (fun c10 => ?_) (fun c10 => ?_)
       ·
        have hst := Dl.step_6a (r := r) hl6 (by simpa using c10)
        refine W ?_
        refine cM rfl rfl rfl (.k rfl .nil) rfl (.n (.take .nil)) .nil (dl_next (x := (⟨x.th, x.cap, x.wd, x.ver, x.chunk, x.lo, x.hi, x.most, x.line, x.i, x.count, (r.peek (x.chunk + 7 + 3 * x.i)), x.k, x.g, x.l⟩ : Dl)) (by dsimp only; omega)) rfl .nil ⟨.all, ?_⟩
        refine Z ?_
        exact At.finalX (N' := [.blk b (.cells _ 63), rowE iK 43 Lv x.l, .blk ba (.cells _ 59), .row wv _ 1 n _]) hds how rfl (.t rfl) (List.Sublist.refl _) (⟨_, by (rw [hst]; done), by (rw [hst, Dl.next_l]; done)⟩)
       ·
        have hst := Dl.step_6b (r := r) hl6 (by simpa using c10)
        refine W ?_
        refine cM rfl rfl rfl (.k rfl .nil) rfl (.n (.take .nil)) (.cons (wS M1) .nil) (dl_seven (x := (⟨x.th, x.cap, x.wd, x.ver, x.chunk, x.lo, x.hi, x.most, x.line, x.i, x.count, (r.peek (x.chunk + 7 + 3 * x.i)), x.k, x.g, x.l⟩ : Dl)) (by dsimp only; omega) (by dsimp only; omega) (by dsimp only; omega)) rfl (Aprt.row (E := 43) (.inl sl)) ⟨.all, ?_⟩
        refine Z ?_
        exact At.finalX (N' := [.blk b (.cells _ 63), rowE iK 43 Lv x.l, .blk ba (.cells _ 59), .row wv _ 1 n _]) hds how rfl (.t rfl) (List.Sublist.refl _) (⟨_, by (rw [hst]; done), by (rw [hst, Dl.seven_l]; done)⟩)
      ·
       refine Z ?_
       refine At.condD (.t rfl) (fun c11 => ?_) (fun c11 => ?_)
       ·
        have hl7 : x.line = 7 := (by simpa using c11); have hst := Dl.step_7 (r := r) hl7 
        refine W ?_
        let F127 : Fr := [(153, pt b 0), (156, pt b 12), (157, iv x.k), (160, pt b 11), (161, iv x.s), (162, iv (verD x.s)), (163, pt ba 0), (165, iv ((x.chunk + 7 + 3 * x.i) + 2)), (166, iv (r.peek ((x.chunk + 7 + 3 * x.i) + 2))), (167, true, .agg #[.int .i64 x.k, .int .i64 (verD x.s), .int .i64 (r.peek ((x.chunk + 7 + 3 * x.i) + 2))]), (0, pt b 0), (1, pt ba 0)]
        refine At.dag [tt 0, tt 1, tt 2, tt 3, tt 5, tt 6, tt 7, tt 10, tt 11, tt 12] 6 (mF 16 [4, 8, 9, 13, 14, 15]) ([]) (by (exact keepOf (List.nil_sublist _))) (by kernel_rfl) (by kernel_rfl) (fun G hnode hdone => ?_)
        have g0 : ∀ (Lv2 : Value), At w 176 [] (fs F127 4095) ([dlB b Lv2 x, rowE iK 43 Lv2 (putD x.l ⟨x.k, verD x.s, r.peek ((x.chunk + 7 + 3 * x.i) + 2)⟩), raB ba wv (r.load ((x.chunk + 7 + 3 * x.i) + 2)), raW wv n (r.load ((x.chunk + 7 + 3 * x.i) + 2))]) ([]) (G 0 (mF 16 [])) := fun Lv2 => by
         refine hdone _ _ _ (by kernel_rfl) ?_
         refine W ?_
         refine cM rfl rfl rfl (.k rfl .nil) rfl (.n (.take .nil)) .nil (dl_next (x := (⟨x.th, x.cap, x.wd, x.ver, x.chunk, x.lo, x.hi, x.most, x.line, x.i, x.count, x.s, x.k, x.g, (putD x.l ⟨x.k, verD x.s, r.peek ((x.chunk + 7 + 3 * x.i) + 2)⟩)⟩ : Dl)) (by dsimp only; omega)) rfl .nil ⟨.all, ?_⟩
         refine Z ?_
         exact At.finalX (N' := [.blk b (.cells _ 63), rowE iK 43 Lv2 (putD x.l ⟨x.k, verD x.s, r.peek ((x.chunk + 7 + 3 * x.i) + 2)⟩), .blk ba (.cells _ 59), .row wv _ 1 n _]) hds how rfl (.t rfl) (List.Sublist.refl _) (⟨_, by (rw [hst]; done), by (rw [hst, Dl.next_l]; done)⟩)
        have g1 : ∀ (_ : True), At w 176 [] (fs F127 4095) ([dlB b Lv x, rowE iK 43 Lv x.l, raB ba wv (r.load ((x.chunk + 7 + 3 * x.i) + 2)), raW wv n (r.load ((x.chunk + 7 + 3 * x.i) + 2))]) ([]) (G 1 (mF 16 [15])) := fun _ => by
         refine hnode _ _ _ _ [(15, [], 0, (mF 16 []))] (by kernel_rfl) kz ?_
         ·
          refine cX rfl rfl rfl (.k rfl (.k rfl .nil)) rfl (.take (.take .nil)) .nil (dl_put (b := b) (Lv := Lv) (x := x) (y := ⟨x.k, verD x.s, r.peek ((x.chunk + 7 + 3 * x.i) + 2)⟩) (by omega)) Aprt.nil (fun v B hR => ⟨Cl.none, ?_⟩); obtain ⟨Lv2, rfl, rfl⟩ := hR; refine At.perm (List.Perm.swap _ _ _) ?_
          refine W ?_
          exact wk (g0 Lv2)
        have g2 : ∀ (_ : True), At w 176 [] (fs F127 3327) ([dlB b Lv x, rowE iK 43 Lv x.l, raB ba wv r, raW wv n r]) ([]) (G 3 (mF 16 [13, 14, 15])) := fun _ => by
         refine hnode _ _ _ _ [(13, [tt 14], 1, (mF 16 [15]))] (by kernel_rfl) kz ?_
         ·
          refine cM rfl rfl rfl (.k rfl (.k rfl .nil)) rfl (.n (.skip (.skip (.take (.take .nil))))) .nil (r_Load (r := r) (i := (x.chunk + 7 + 3 * x.i) + 2) hn hN hf) keysRa .nil ⟨kz, ?_⟩
          refine sC rfl kz (R.build bt_43 (.k rfl (.k rfl (.k rfl .nil))) (.cons rfl (.cons rfl (.cons rfl .nil))) rfl) ?_
          refine W ?_
          exact wk (g1 trivial)
        have g3 : ∀ (_ : True), At w 176 [] (fs F127 3579) ([dlB b Lv x, rowE iK 43 Lv x.l, raB ba wv (r.load ((x.chunk + 7 + 3 * x.i) + 2)), raW wv n (r.load ((x.chunk + 7 + 3 * x.i) + 2))]) ([]) (G 3 (mF 16 [4, 14, 15])) := fun _ => by
         refine hnode _ _ _ _ [(4, [tt 14], 1, (mF 16 [15]))] (by kernel_rfl) kz ?_
         ·
          refine WD ?_
          refine sC rfl kz (R.build bt_43 (.k rfl (.k rfl (.k rfl .nil))) (.cons rfl (.cons rfl (.cons rfl .nil))) rfl) ?_
          refine W ?_
          exact wk (g1 trivial)
        have g4 : ∀ (_ : True), At w 176 [] (fs F127 3295) ([dlB b Lv x, rowE iK 43 Lv x.l, raB ba wv r, raW wv n r]) ([]) (G 4 (mF 16 [9, 13, 14, 15])) := fun _ => by
         refine hnode _ _ _ _ [(9, [], 3, (mF 16 [13, 14, 15]))] (by kernel_rfl) kz ?_
         ·
          refine At.callVR rfl rfl rfl (.k rfl .nil) (.nil) (fun hg => r_Version (by omega)) kz ?_
          refine W ?_
          exact wk (g2 trivial)
        have g5 : ∀ (_ : True), At w 176 [] (fs F127 3323) ([dlB b Lv x, rowE iK 43 Lv x.l, raB ba wv r, raW wv n r]) ([]) (G 4 (mF 16 [4, 13, 14, 15])) := fun _ => by
         refine hnode _ _ _ _ [(4, [], 3, (mF 16 [13, 14, 15])), (13, [], 3, (mF 16 [4, 14, 15]))] (by kernel_rfl) kz ?_
         refine ⟨?_, ?_⟩
         ·
          refine WD ?_
          exact wk (g2 trivial)
         ·
          refine cM rfl rfl rfl (.k rfl (.k rfl .nil)) rfl (.n (.skip (.skip (.take (.take .nil))))) .nil (r_Load (r := r) (i := (x.chunk + 7 + 3 * x.i) + 2) hn hN hf) keysRa .nil ⟨kz, ?_⟩
          refine W ?_
          exact wk (g3 trivial)
        have g6 : ∀ (_ : True), At w 176 [] (fs F127 3279) ([dlB b Lv x, rowE iK 43 Lv x.l, raB ba wv r, raW wv n r]) ([]) (G 5 (mF 16 [8, 9, 13, 14, 15])) := fun _ => by
         refine hnode _ _ _ _ [(8, [], 4, (mF 16 [9, 13, 14, 15]))] (by kernel_rfl) kz ?_
         ·
          refine WD ?_
          exact wk (g4 trivial)
        have g7 : ∀ (_ : True), At w 176 [] (fs F127 3291) ([dlB b Lv x, rowE iK 43 Lv x.l, raB ba wv r, raW wv n r]) ([]) (G 5 (mF 16 [4, 9, 13, 14, 15])) := fun _ => by
         refine hnode _ _ _ _ [(4, [], 4, (mF 16 [9, 13, 14, 15])), (9, [], 4, (mF 16 [4, 13, 14, 15]))] (by kernel_rfl) kz ?_
         refine ⟨?_, ?_⟩
         ·
          refine WD ?_
          exact wk (g4 trivial)
         ·
          refine At.callVR rfl rfl rfl (.k rfl .nil) (.nil) (fun hg => r_Version (by omega)) kz ?_
          refine W ?_
          exact wk (g5 trivial)
        have g8 : ∀ (_ : True), At w 176 [] (fs F127 3275) ([dlB b Lv x, rowE iK 43 Lv x.l, raB ba wv r, raW wv n r]) ([]) (G 6 (mF 16 [4, 8, 9, 13, 14, 15])) := fun _ => by
         refine hnode _ _ _ _ [(4, [], 5, (mF 16 [8, 9, 13, 14, 15])), (8, [], 5, (mF 16 [4, 9, 13, 14, 15]))] (by kernel_rfl) kz ?_
         refine ⟨?_, ?_⟩
         ·
          refine WD ?_
          exact wk (g6 trivial)
         ·
          refine WD ?_
          exact wk (g7 trivial)
        refine W ?_
        exact wk (g8 trivial)
       ·
        have hst := Dl.step_o (r := r) (by simpa using c1) (by simpa using c2) (by simpa using c4) (by simpa using c7) (by simpa using c8) (by simpa using c9) (by simpa using c11)
        refine Z ?_
        exact At.finalX (N' := [.blk b (.cells _ 63), rowE iK 43 Lv x.l, .blk ba (.cells _ 59), .row wv _ 1 n _]) hds how rfl (.t rfl) (List.Sublist.refl _) (⟨_, by (rw [hst]; done), by (rw [hst]; done)⟩)
end Go.Proofs.YtbolanigdkgbdaaGreat
namespace Go.Proofs.YtbolanigdkgbdaaGreat
open Go Go.RowKit
set_option maxRecDepth 10000
set_option linter.unusedVariables false
set_option maxHeartbeats 1000000
theorem bt_134 : buildTab Tryz.prog 134 = some (#[.int .i64 0, .bool false, .int .i64 0, .int .i64 0, .int .i64 0, .slice none 0 0], [(0, 1), (1, 1), (2, 1), (3, 1), (4, 1), (5, 1)]) := by kernel_rfl
theorem bt_156 : buildTab Tryz.prog 156 = some (#[.int .i64 0, .int .i64 0, .int .i64 0, .int .i64 0, .int .i64 0, .pointer none, .pointer none, .bool false], [(0, 1), (1, 4), (5, 1), (6, 1), (7, 1)]) := by kernel_rfl
theorem fo_156_0 : fieldOff? Tryz.prog 156 0 = some 0 := by kernel_rfl
theorem fo_156_1 : fieldOff? Tryz.prog 156 1 = some 1 := by kernel_rfl
theorem fo_156_2 : fieldOff? Tryz.prog 156 2 = some 5 := by kernel_rfl
theorem fo_156_3 : fieldOff? Tryz.prog 156 3 = some 6 := by kernel_rfl
theorem fo_156_4 : fieldOff? Tryz.prog 156 4 = some 7 := by kernel_rfl
theorem fo_43_2 : fieldOff? Tryz.prog 43 2 = some 2 := by kernel_rfl
theorem sz_134 : (Tryz.prog.info? 134).map (·.size) = some 6 := by kernel_rfl
theorem sz_4 : (Tryz.prog.info? 4).map (·.size) = some 1 := by kernel_rfl
theorem sz_52 : (Tryz.prog.info? 52).map (·.size) = some 1 := by kernel_rfl
theorem ze_134 : (Tryz.prog.info? 134).bind (·.zero) = some (.agg #[.int .i64 0, .bool false, .int .i64 0, .int .i64 0, .int .i64 0, .slice none 0 0]) := by kernel_rfl
structure An where
  code : Int
  found : Bool
  val : Int
  writer : Int
  version : Int
abbrev anV (x : An) (pv : Value) : Array Value := #[.int .i64 x.code, .bool x.found, .int .i64 x.val, .int .i64 x.writer, .int .i64 x.version, pv]
def foundD (l : List Itm) (key : Int) : An := match l.find? (fun y => decide (y.key = key)) with
  | some y => ⟨0, decide (0 ≤ y.data % 2097152 - 1), max 0 (y.data % 2097152 - 1), y.data / 2097152, 0⟩
  | none => ⟨0, false, 0, -1, 0⟩
theorem foundD_yes {l : List Itm} {key : Int} {i : Nat} (h : i < l.length) (h1 : (gE l (i : Int)).key = key) (h2 : ∀ j : Nat, j < i → (gE l (j : Int)).key ≠ key) : foundD l key = ⟨0, decide (0 ≤ (gE l (i : Int)).data % 2097152 - 1), max 0 ((gE l (i : Int)).data % 2097152 - 1), (gE l (i : Int)).data / 2097152, 0⟩ := by
  have : l.find? (fun y => decide (y.key = key)) = some (gE l (i : Int)) := by
    rw [List.find?_eq_some_iff_getElem]
    refine ⟨by simpa using h1, i, h, by simp [gE, h], fun j hj => ?_⟩
    have := h2 j hj
    simpa [gE, show j < l.length by omega] using this
  unfold foundD; rw [this]
theorem foundD_no {l : List Itm} {key : Int} {i : Nat} (h : l.length ≤ i) (h2 : ∀ j : Nat, j < i → (gE l (j : Int)).key ≠ key) : foundD l key = ⟨0, false, 0, -1, 0⟩ := by
  have : l.find? (fun y => decide (y.key = key)) = none := by
    rw [List.find?_eq_none]
    intro y hy
    obtain ⟨j, hj, rfl⟩ := List.getElem_of_mem hy
    have := h2 j (by omega)
    simpa [gE, hj] using this
  unfold foundD; rw [this]
abbrev dgC (a b c d key : Int) (bw : Nat) (lp : Option Nat) (over : Bool) : Array Value := #[.int .i64 key, .int .i64 a, .int .i64 b, .int .i64 c, .int .i64 d, .pointer (some ⟨bw, 0, none⟩), .pointer (match lp with | none => none | some bl => some ⟨bl, 0, none⟩), .bool over]
abbrev dgB (bg : Nat) (a b c d key : Int) (bw : Nat) (lp : Option Nat) (over : Bool) : Ent := .blk bg (.cells (dgC a b c d key bw lp over) 156)
theorem keysDw {b ba n : Nat} {wv : Value} {k k' : Dw} {x y x' y' : Rr} : keys [dwB b k, raB ba wv x, raW wv n y] = keys [dwB b k', raB ba wv x', raW wv n y'] := rfl
theorem dg_Found {v : Value} {l : List Itm} {key : Int} (hL : l.length ≤ 1000000) : Fn Tryz.prog 122 [v, .int .i64 key] ([rdE iK v l]) ([]) (IsV (.agg (anV (foundD l key) (.slice none 0 0)))) := by
 refine Fn.enter Tryz.func122 (by kernel_rfl) rfl (n := 38) rfl rfl (fun w => ?_)
 refine W ?_
 refine At.alloc rfl rfl rfl ze_134 (fun b1 hb1 => ⟨.all, ?_⟩)
 refine W ?_
 refine At.loop1 (fun (i : Nat) => i ≤ l.length ∧ ∀ j : Nat, j < i → (gE l (j : Int)).key ≠ key) (fun (i : Nat) => l.length - i) (fun (i : Nat) => [(0, true, v), (1, true, .int .i64 key), (4, true, .pointer (some ⟨b1, 0, none⟩)), (5, true, .int .i64 i)]) (fun (i : Nat) => [.blk b1 (.cells #[.int .i64 0, .bool false, .int .i64 0, .int .i64 0, .int .i64 0, .slice none 0 0] 134)]) (fun (i : Nat) => []) (0) ⟨Nat.zero_le _, fun j hj => absurd hj (Nat.not_lt_zero _)⟩ (.cons rfl (.cons rfl (.cons rfl (.cons rfl .nil)))) (List.Sublist.refl _) rfl (fun i hi => ?_)
 obtain ⟨hi1, hi2⟩ := hi
 refine Z ?_
 refine At.condD (.t rfl) (fun c1 => ?_) (fun c1 => ?_)
 ·
  refine Z ?_
  refine At.condD (.t rfl) (fun c2 => ?_) (fun c2 => ?_)
  ·
   refine W ?_
   refine At.callVR rfl rfl rfl (.k rfl .nil) (.nil) (fun hg => r_Val) .all ?_
   refine W ?_
   refine At.callVR rfl rfl rfl (.k rfl .nil) (.nil) (fun hg => r_Writer) .all ?_
   refine Z ?_
   refine eA rfl (R.build bt_134 (.k rfl (.k rfl (.k rfl .nil))) (.cons rfl (.cons rfl (.cons rfl .nil))) rfl) ?_
   refine At.stAll (vs := [.int .i64 0, .bool (decide (0 ≤ (gE l (i : Int)).data % 2097152 - 1)), .int .i64 (max 0 ((gE l (i : Int)).data % 2097152 - 1)), .int .i64 ((gE l (i : Int)).data / 2097152), .int .i64 0, .slice none 0 0]) rfl rfl sz_134 (.t rfl) (.t rfl) rfl rfl rfl (.n U0) ⟨.all, ?_⟩
   refine W ?_
   exact At.final rfl (.a (vs := [_, _, _, _, _, _]) Tryz.underlying134 rfl sz_134 rfl (csS M1 ⟨rfl, rfl, rfl, rfl, rfl, rfl, trivial⟩)) (List.nil_sublist _) (⟨by (rw [foundD_yes (by omega) c2 hi2]; rfl), rfl, rfl⟩)
  ·
   refine W ?_
   exact At.again1 (i + 1) ⟨by omega, fun j hj => (by rcases Nat.lt_succ_iff_lt_or_eq.1 hj with h | h; exact hi2 j h; subst h; exact c2)⟩ (by omega) (.cons rfl (.cons rfl (.cons rfl (.cons rfl .nil)))) (List.Sublist.refl _) rfl
 ·
  refine W ?_
  refine eA rfl (R.build bt_134 (.kc .nil) (.cons rfl .nil) rfl) ?_
  refine At.stAll (vs := [.int .i64 0, .bool false, .int .i64 0, .int .i64 (-1), .int .i64 0, .slice none 0 0]) rfl rfl sz_134 (.t rfl) (.t rfl) rfl rfl rfl (.n U0) ⟨.all, ?_⟩
  refine W ?_
  exact At.final rfl (.a (vs := [_, _, _, _, _, _]) Tryz.underlying134 rfl sz_134 rfl (csS M1 ⟨rfl, rfl, rfl, rfl, rfl, rfl, trivial⟩)) (List.nil_sublist _) (⟨by (rw [foundD_no (by omega) hi2]; rfl), rfl, rfl⟩)
theorem dg_New {a b c d key : Int} : Fn Tryz.prog 101 [.agg #[.int .i64 a, .int .i64 b, .int .i64 c, .int .i64 d], .int .i64 key] ([]) ([]) (fun v N H => ∃ bg bw, v = .pointer (some ⟨bg, 0, none⟩) ∧ N = [dgB bg a b c d key bw none false, dwB bw (⟨a, b, c, d, key, 1, 0, 0, 0, 0⟩ : Dw)] ∧ H = []) := by
 refine Fn.enter Tryz.func101 (by kernel_rfl) rfl (n := 12) rfl rfl (fun w => ?_)
 refine W ?_
 refine At.box rfl rfl rfl (.t rfl) (fun b1 hb1 => ⟨.all, ?_⟩)
 refine W ?_
 refine At.drawK [tt 0, tt 1, tt 2, tt 3, ff 4, tt 5, ff 6, tt 7] (by kernel_rfl) (by kernel_rfl) ?_
 refine W ?_
 refine cP rfl rfl rfl (.k rfl (.k rfl .nil)) rfl (dw_New (a := a) (b := b) (c := c) (d := d) (key := key)) (fun _ h => nomatch h) (fun v N1 H1 hR => ?_); obtain ⟨bw, rfl, rfl, rfl⟩ := hR; refine ⟨rfl, kz, ?_⟩
 refine sC rfl kz (R.build bt_156 (.k rfl (.k rfl (.k rfl .nil))) (.cons rfl (.cons rfl (.cons rfl .nil))) rfl) ?_
 refine At.box rfl rfl rfl (.t rfl) (fun b2 hb2 => ⟨kz, ?_⟩)
 refine W ?_
 exact At.final (N' := [dgB b2 a b c d key bw none false, dwB bw (⟨a, b, c, d, key, 1, 0, 0, 0, 0⟩ : Dw)]) rfl (.t rfl) sl (⟨b2, bw, rfl, rfl, rfl⟩)
theorem dg_StepW {bg bw ba n : Nat} {wv : Value} {a b c d key : Int} {x : Dw} {r : Rr} (hx : x.ok) (hn : r.w.length = n) (hN : n ≤ 1000000) (hf : r.few) (hw : r.mid 1152921504606846976) (hg : ¬ (x.step r).1.line = 0) : FnX Tryz.prog 104 [.pointer (some ⟨bg, 0, none⟩), .pointer (some ⟨ba, 0, none⟩)] ([]) ([dgB bg a b c d key bw none false, dwB bw x, raB ba wv r, raW wv n r]) (fun v N => v = .bool false ∧ N = [dgB bg a b c d key bw none false, dwB bw (x.step r).1, raB ba wv (x.step r).2, raW wv n (x.step r).2]) := by
 refine FnX.enter Tryz.func104 (by kernel_rfl) rfl (n := 59) rfl rfl (fun w df hds how => ?_)
 refine W ?_
 refine eA rfl (R.neqNilP Tryz.underlying52 (.t rfl)) ?_
 refine W ?_
 refine cM rfl rfl rfl (.k rfl (.k rfl .nil)) rfl (.n (.skip (.take (.take (.take .nil))))) .nil (dw_Step (x := x) (r := r) hx hn hN hf hw) keysDw .nil ⟨.all, ?_⟩
 refine W ?_
 refine At.condD (.t rfl) (fun c3 => ?_) (fun c3 => ?_)
 ·
  exact absurd (by simpa using c3) hg
 ·
  refine W ?_
  exact At.finalX (N' := [dgB bg a b c d key bw none false, dwB bw (x.step r).1, raB ba wv (x.step r).2, raW wv n (x.step r).2]) hds how rfl (.t rfl) (List.Sublist.refl _) (⟨rfl, rfl⟩)
theorem dg_StepE {bg bw ba n : Nat} {wv : Value} {a b c d key : Int} {x : Dw} {r : Rr} (hx : x.ok) (hn : r.w.length = n) (hN : n ≤ 1000000) (hf : r.few) (hw : r.mid 1152921504606846976) (hg : (x.step r).1.line = 0) : FnX Tryz.prog 104 [.pointer (some ⟨bg, 0, none⟩), .pointer (some ⟨ba, 0, none⟩)] ([]) ([dgB bg a b c d key bw none false, dwB bw x, raB ba wv r, raW wv n r]) (fun v N => ∃ bl, v = .bool false ∧ N = [dgB bg a b c d key bw (some bl) false, dwB bw (x.step r).1, dlB bl (.slice none 0 0) (⟨a, b, c, d, (x.step r).1.at_, key, key, 1073741824, 1, 0, 0, 0, 0, 0, []⟩ : Dl), rowE iK 43 (.slice none 0 0) [], raB ba wv (x.step r).2, raW wv n (x.step r).2]) := by
 refine FnX.enter Tryz.func104 (by kernel_rfl) rfl (n := 59) rfl rfl (fun w df hds how => ?_)
 refine W ?_
 refine eA rfl (R.neqNilP Tryz.underlying52 (.t rfl)) ?_
 refine W ?_
 refine cM rfl rfl rfl (.k rfl (.k rfl .nil)) rfl (.n (.skip (.take (.take (.take .nil))))) .nil (dw_Step (x := x) (r := r) hx hn hN hf hw) keysDw .nil ⟨.all, ?_⟩
 refine W ?_
 refine At.condD (.t rfl) (fun c3 => ?_) (fun c3 => ?_)
 ·
  refine At.drawM ([dgB bg a b c d key bw none false, dwB bw (x.step r).1]) ([]) [tt 0, tt 1, tt 2, tt 3, tt 5, tt 6, tt 7, tt 12, tt 13, tt 14, tt 16, tt 17, tt 18] [tt 4, tt 8, tt 9, tt 10, tt 11, tt 15, tt 19, ff 20] [tt 21, tt 22, ff 23] (keepOf sl) (fun _ h => nomatch h) (by kernel_rfl) (by kernel_rfl) ?_
  refine V ?_
  refine At.stage kz ?_
  refine W ?_
  refine cP rfl rfl rfl (.k rfl (.k rfl (.k rfl (.k rfl (.kc .nil))))) rfl (dl_New (a := a) (b := b) (c := c) (d := d) (chunk := (x.step r).1.at_) (lo := key) (hi := key)) (fun _ h => nomatch h) (fun v N1 H1 hR => ?_); obtain ⟨bl, rfl, rfl, rfl⟩ := hR; refine ⟨rfl, kz, ?_⟩
  refine At.stage Cl.none ?_
  refine W ?_
  refine At.st1 rfl rfl sz_52 (.t rfl) (.t rfl) rfl rfl (.n U2) ⟨Cl.none, ?_⟩
  refine W ?_
  refine At.perm (N' := [dgB bg a b c d key bw (some bl) false, dwB bw (x.step r).1, dlB bl (.slice none 0 0) (⟨a, b, c, d, (x.step r).1.at_, key, key, 1073741824, 1, 0, 0, 0, 0, 0, []⟩ : Dl), rowE iK 43 (.slice none 0 0) [], raB ba wv (x.step r).2, raW wv n (x.step r).2]) (List.perm_append_comm (l₁ := [_, _]) (l₂ := [_, _]) |>.append_right [_, _]) ?_
  exact At.finalX (N' := [dgB bg a b c d key bw (some bl) false, dwB bw (x.step r).1, dlB bl (.slice none 0 0) (⟨a, b, c, d, (x.step r).1.at_, key, key, 1073741824, 1, 0, 0, 0, 0, 0, []⟩ : Dl), rowE iK 43 (.slice none 0 0) [], raB ba wv (x.step r).2, raW wv n (x.step r).2]) hds how rfl (.t rfl) (List.Sublist.refl _) (⟨bl, rfl, rfl⟩)
 ·
  exact absurd hg (by simpa using c3)
theorem dg_StepL {bg bw bl ba n : Nat} {wv Lv : Value} {a b c d key : Int} {y : Dl} {u : Dw} {r : Rr} (hx : y.ok) (hL : y.l.length ≤ 10000) (hn : r.w.length = n) (hN : n ≤ 1000000) (hf : r.few) (hw : r.mid 1152921504606846976) : FnX Tryz.prog 104 [.pointer (some ⟨bg, 0, none⟩), .pointer (some ⟨ba, 0, none⟩)] ([]) ([dgB bg a b c d key bw (some bl) false, dwB bw u, dlB bl Lv y, rowE iK 43 Lv y.l, raB ba wv r, raW wv n r]) (fun v N => ∃ Lv2, v = .bool (decide ((y.step r).1.line = 0)) ∧ N = [dgB bg a b c d key bw (some bl) (decide ((y.step r).1.line = 0)), dwB bw u, dlB bl Lv2 (y.step r).1, rowE iK 43 Lv2 (y.step r).1.l, raB ba wv (y.step r).2, raW wv n (y.step r).2]) := by
 refine FnX.enter Tryz.func104 (by kernel_rfl) rfl (n := 59) rfl rfl (fun w df hds how => ?_)
 refine W ?_
 refine eA rfl (R.neqNilP Tryz.underlying52 (.t rfl)) ?_
 refine W ?_
 refine cX rfl rfl rfl (.k rfl (.k rfl .nil)) rfl (.skip (.skip .all)) .nil (dl_Step (x := y) (r := r) hx hL hn hN hf hw) Aprt.nil (fun v B hR => ⟨.all, ?_⟩); obtain ⟨Lv2, rfl, rfl⟩ := hR; refine At.perm (N' := [dgB bg a b c d key bw (some bl) false, dwB bw u, dlB bl Lv2 (y.step r).1, rowE iK 43 Lv2 (y.step r).1.l, raB ba wv (y.step r).2, raW wv n (y.step r).2]) (List.perm_append_comm (l₁ := [_, _, _, _]) (l₂ := [_, _])) ?_
 refine W ?_
 refine At.st1 rfl rfl sz_4 (.t rfl) (.t rfl) rfl rfl (.n U0) ⟨.all, ?_⟩
 refine W ?_
 exact At.finalX (N' := [dgB bg a b c d key bw (some bl) (decide ((y.step r).1.line = 0)), dwB bw u, dlB bl Lv2 (y.step r).1, rowE iK 43 Lv2 (y.step r).1.l, raB ba wv (y.step r).2, raW wv n (y.step r).2]) hds how rfl (.t rfl) (List.Sublist.refl _) (⟨Lv2, rfl, rfl⟩)
theorem dg_StepO {bg bw ba n : Nat} {wv lv : Value} {a b c d key : Int} {ll : Option Nat} {r : Rr} : Fn Tryz.prog 104 [.pointer (some ⟨bg, 0, none⟩), .pointer (some ⟨ba, 0, none⟩)] ([]) ([dgB bg a b c d key bw ll true]) (IsM (.bool true) [dgB bg a b c d key bw ll true]) := by
 refine Fn.enter Tryz.func104 (by kernel_rfl) rfl (n := 59) rfl rfl (fun w => ?_)
 refine W ?_
 exact fT rfl (.t rfl) (⟨rfl, rfl, rfl⟩)
theorem dg_Answer1 {bg bw bl : Nat} {Lv : Value} {a b c d key : Int} {y : Dl} (hL : y.l.length ≤ 1000000) : Fn Tryz.prog 105 [.pointer (some ⟨bg, 0, none⟩)] ([dgB bg a b c d key bw (some bl) true, dlB bl Lv y, rdE iK Lv y.l]) ([]) (IsV (.agg (anV (foundD y.l key) (.slice none 0 0)))) := by
 refine Fn.enter Tryz.func105 (by kernel_rfl) rfl (n := 21) rfl rfl (fun w => ?_)
 refine W ?_
 refine At.alloc rfl rfl rfl ze_134 (fun b1 hb1 => ⟨.all, ?_⟩)
 refine Z ?_
 refine At.drawM ([dgB bg a b c d key bw (some bl) true, dlB bl Lv y, rdE iK Lv y.l]) ([]) [tt 0, tt 1, tt 2, tt 7, tt 8, tt 9] [tt 3, tt 4, tt 5, tt 6, tt 10, ff 11] [ff 12] (keepOf sl) (fun _ h => nomatch h) (by kernel_rfl) (by kernel_rfl) ?_
 refine V ?_
 refine At.stage kz ?_
 refine W ?_
 refine At.callVR rfl rfl rfl (.k rfl (.k rfl .nil)) (by (exact .cons (rS M2) .nil)) (fun hg => dg_Found (v := Lv) (l := y.l) (key := key) hL) kz ?_
 refine At.stage Cl.none ?_
 refine At.stAll (vs := (anV (foundD y.l key) (.slice none 0 0)).toList) rfl rfl sz_134 (.t rfl) (.t rfl) rfl rfl rfl (.n U0) ⟨Cl.none, ?_⟩
 refine W ?_
 exact At.final rfl (.a (vs := [_, _, _, _, _, _]) Tryz.underlying134 rfl sz_134 rfl (csS M3 ⟨rfl, rfl, rfl, rfl, rfl, rfl, trivial⟩)) (List.nil_sublist _) (⟨rfl, rfl, rfl⟩)
theorem dg_Answer0 {bg bw : Nat} {a b c d key : Int} {ll : Option Nat} : Fn Tryz.prog 105 [.pointer (some ⟨bg, 0, none⟩)] ([dgB bg a b c d key bw ll false]) ([]) (IsV (.agg (anV ⟨0, false, 0, 0, 0⟩ (.slice none 0 0)))) := by
 refine Fn.enter Tryz.func105 (by kernel_rfl) rfl (n := 21) rfl rfl (fun w => ?_)
 refine W ?_
 refine At.alloc rfl rfl rfl ze_134 (fun b1 hb1 => ⟨.all, ?_⟩)
 refine Z ?_
 refine eA rfl (R.build bt_134 .nil .nil rfl) ?_
 refine At.stAll (vs := [.int .i64 0, .bool false, .int .i64 0, .int .i64 0, .int .i64 0, .slice none 0 0]) rfl rfl sz_134 (.t rfl) (.t rfl) rfl rfl rfl (.n U0) ⟨.all, ?_⟩
 refine W ?_
 exact At.final rfl (.a (vs := [_, _, _, _, _, _]) Tryz.underlying134 rfl sz_134 rfl (csS M1 ⟨rfl, rfl, rfl, rfl, rfl, rfl, trivial⟩)) (List.nil_sublist _) (⟨rfl, rfl, rfl⟩)
end Go.Proofs.YtbolanigdkgbdaaGreat
namespace Go.Proofs.YtbolanigdkgbdaaGreat
open Go Go.RowKit
set_option maxRecDepth 10000
set_option linter.unusedVariables false
set_option maxHeartbeats 1000000
theorem bt_196 : buildTab Tryz.prog 196 = some (#[.int .i64 0, .int .i64 0, .int .i64 0, .int .i64 0, .int .i64 0, .bool false, .bool false, .int .i64 0, .int .i64 0, .int .i64 0, .int .i64 0, .int .i64 0, .bool false, .int .i64 0], [(0, 4), (4, 1), (5, 1), (6, 1), (7, 1), (8, 1), (9, 1), (10, 1), (11, 1), (12, 1), (13, 1)]) := by kernel_rfl
theorem fo_196_1 : fieldOff? Tryz.prog 196 1 = some 4 := by kernel_rfl
theorem fo_196_10 : fieldOff? Tryz.prog 196 10 = some 13 := by kernel_rfl
theorem fo_196_2 : fieldOff? Tryz.prog 196 2 = some 5 := by kernel_rfl
theorem fo_196_3 : fieldOff? Tryz.prog 196 3 = some 6 := by kernel_rfl
theorem fo_196_4 : fieldOff? Tryz.prog 196 4 = some 7 := by kernel_rfl
theorem fo_196_5 : fieldOff? Tryz.prog 196 5 = some 8 := by kernel_rfl
theorem fo_196_6 : fieldOff? Tryz.prog 196 6 = some 9 := by kernel_rfl
theorem fo_196_7 : fieldOff? Tryz.prog 196 7 = some 10 := by kernel_rfl
theorem fo_196_8 : fieldOff? Tryz.prog 196 8 = some 11 := by kernel_rfl
theorem fo_196_9 : fieldOff? Tryz.prog 196 9 = some 12 := by kernel_rfl
structure Dd where
  th : Int
  cap : Int
  wd : Int
  ver : Int
  chunk : Int
  draw : Bool
  drew : Bool
  line : Int
  l : Int
  n : Int
  w : Int
  mate : Int
  alone : Bool
  after : Int
abbrev ddC (x : Dd) : Array Value := #[.int .i64 x.th, .int .i64 x.cap, .int .i64 x.wd, .int .i64 x.ver, .int .i64 x.chunk, .bool x.draw, .bool x.drew, .int .i64 x.line, .int .i64 x.l, .int .i64 x.n, .int .i64 x.w, .int .i64 x.mate, .bool x.alone, .int .i64 x.after]
abbrev ddB (b : Nat) (x : Dd) : Ent := .blk b (.cells (ddC x) 196)
structure Dd.ok (x : Dd) : Prop where
  chunk : -1152921504606846976 ≤ x.chunk ∧ x.chunk ≤ 1152921504606846976
  ll : -1152921504606846976 ≤ x.l ∧ x.l ≤ 1152921504606846976
  nn : -1152921504606846976 ≤ x.n ∧ x.n ≤ 1152921504606846976
  ww : -1152921504606846976 ≤ x.w ∧ x.w ≤ 1152921504606846976
abbrev Dd.alon (x : Dd) : Dd := (⟨x.th, x.cap, x.wd, x.ver, x.chunk, x.draw, x.drew, 0, x.l, x.n, x.w, x.mate, true, x.n⟩ : Dd)
def Dd.eight (x : Dd) : Dd := if x.mate = 1 ∨ x.n = 0 then Dd.alon (⟨x.th, x.cap, x.wd, x.ver, x.chunk, x.draw, x.drew, 8, x.l, x.n, x.w, x.mate, x.alone, x.after⟩ : Dd) else (⟨x.th, x.cap, x.wd, x.ver, x.chunk, x.draw, x.drew, 8, x.l, x.n, x.w, x.mate, x.alone, x.after⟩ : Dd)
def Dd.ch1 (x : Dd) : Int := if x.line = 0 then x.l else 0
def Dd.ch2 (x : Dd) : Int := if x.line = 0 then if x.alone = true then 0 else x.n else 0
def Dd.ch3 (x : Dd) : Int := if x.line = 0 then x.after else 0
theorem keysDd {b ba n : Nat} {wv : Value} {k k' : Dd} {x y x' y' : Rr} : keys [ddB b k, raB ba wv x, raW wv n y] = keys [ddB b k', raB ba wv x', raW wv n y'] := rfl
def Dd.more (x : Dd) (r : Rr) : Dd × Rr :=
  if x.line = 8 then ((⟨x.th, x.cap, x.wd, x.ver, x.chunk, x.draw, x.drew, 9, x.l, x.n, x.w, x.mate, x.alone, x.after⟩ : Dd), r.swap (x.n + 3) 0 x.l)
  else if x.line = 9 then if ¬ r.peek (x.n + 3) = x.l then ((⟨x.th, x.cap, x.wd, x.ver, x.chunk, x.draw, x.drew, 10, x.l, x.n, x.w, x.mate, x.alone, x.after⟩ : Dd).alon, r.load (x.n + 3)) else ((⟨x.th, x.cap, x.wd, x.ver, x.chunk, x.draw, x.drew, 10, x.l, x.n, x.w, x.mate, x.alone, x.after⟩ : Dd), r.load (x.n + 3))
  else if x.line = 10 then if (r.peek (x.n + 2)) % 2 = 1 then ((⟨x.th, x.cap, x.wd, x.ver, x.chunk, x.draw, x.drew, 0, x.l, x.n, (r.peek (x.n + 2)), x.mate, x.alone, ((r.peek (x.n + 2)) / 2)⟩ : Dd), r.load (x.n + 2)) else ((⟨x.th, x.cap, x.wd, x.ver, x.chunk, x.draw, x.drew, 11, x.l, x.n, (r.peek (x.n + 2)), x.mate, x.alone, x.after⟩ : Dd), r.load (x.n + 2))
  else if x.line = 11 then ((⟨x.th, x.cap, x.wd, x.ver, x.chunk, x.draw, x.drew, 10, x.l, x.n, x.w, x.mate, x.alone, x.after⟩ : Dd), r.swap (x.n + 2) x.w (orOne x.w))
  else (x, r)
theorem Dd.more_8 {x : Dd} {r : Rr} (h : x.line = 8)  : Dd.more x r = ((⟨x.th, x.cap, x.wd, x.ver, x.chunk, x.draw, x.drew, 9, x.l, x.n, x.w, x.mate, x.alone, x.after⟩ : Dd), r.swap (x.n + 3) 0 x.l) := by unfold Dd.more; rw [if_pos h]
theorem Dd.more_9a {x : Dd} {r : Rr} (h : x.line = 9) (h0 : ¬ r.peek (x.n + 3) = x.l) : Dd.more x r = ((⟨x.th, x.cap, x.wd, x.ver, x.chunk, x.draw, x.drew, 10, x.l, x.n, x.w, x.mate, x.alone, x.after⟩ : Dd).alon, r.load (x.n + 3)) := by unfold Dd.more; rw [if_neg (by omega), if_pos h, if_pos h0]
theorem Dd.more_9b {x : Dd} {r : Rr} (h : x.line = 9) (h0 : ¬ (¬ r.peek (x.n + 3) = x.l)) : Dd.more x r = ((⟨x.th, x.cap, x.wd, x.ver, x.chunk, x.draw, x.drew, 10, x.l, x.n, x.w, x.mate, x.alone, x.after⟩ : Dd), r.load (x.n + 3)) := by unfold Dd.more; rw [if_neg (by omega), if_pos h, if_neg h0]
theorem Dd.more_10a {x : Dd} {r : Rr} (h : x.line = 10) (h0 : (r.peek (x.n + 2)) % 2 = 1) : Dd.more x r = ((⟨x.th, x.cap, x.wd, x.ver, x.chunk, x.draw, x.drew, 0, x.l, x.n, (r.peek (x.n + 2)), x.mate, x.alone, ((r.peek (x.n + 2)) / 2)⟩ : Dd), r.load (x.n + 2)) := by unfold Dd.more; rw [if_neg (by omega), if_neg (by omega), if_pos h, if_pos h0]
theorem Dd.more_10b {x : Dd} {r : Rr} (h : x.line = 10) (h0 : ¬ ((r.peek (x.n + 2)) % 2 = 1)) : Dd.more x r = ((⟨x.th, x.cap, x.wd, x.ver, x.chunk, x.draw, x.drew, 11, x.l, x.n, (r.peek (x.n + 2)), x.mate, x.alone, x.after⟩ : Dd), r.load (x.n + 2)) := by unfold Dd.more; rw [if_neg (by omega), if_neg (by omega), if_pos h, if_neg h0]
theorem Dd.more_11 {x : Dd} {r : Rr} (h : x.line = 11)  : Dd.more x r = ((⟨x.th, x.cap, x.wd, x.ver, x.chunk, x.draw, x.drew, 10, x.l, x.n, x.w, x.mate, x.alone, x.after⟩ : Dd), r.swap (x.n + 2) x.w (orOne x.w)) := by unfold Dd.more; rw [if_neg (by omega), if_neg (by omega), if_neg (by omega), if_pos h]
theorem Dd.more_o {x : Dd} {r : Rr} (h8 : ¬ x.line = 8) (h9 : ¬ x.line = 9) (h10 : ¬ x.line = 10) (h11 : ¬ x.line = 11) : Dd.more x r = (x, r) := by unfold Dd.more; rw [if_neg h8, if_neg h9, if_neg h10, if_neg h11]
def Dd.step (x : Dd) (r : Rr) : Dd × Rr :=
  if x.line = 1 then ((⟨x.th, x.cap, x.wd, x.ver, x.chunk, x.draw, x.drew, 2, x.l, x.n, x.w, x.mate, x.alone, x.after⟩ : Dd), r.swap (x.chunk + 3) 0 x.chunk)
  else if x.line = 2 then ((⟨x.th, x.cap, x.wd, x.ver, x.chunk, x.draw, x.drew, 3, (r.peek (x.chunk + 3)), x.n, x.w, x.mate, x.alone, x.after⟩ : Dd), r.load (x.chunk + 3))
  else if x.line = 3 then if (r.peek (x.l + 2)) % 2 = 1 then ((⟨x.th, x.cap, x.wd, x.ver, x.chunk, x.draw, x.drew, 5, x.l, ((r.peek (x.l + 2)) / 2), (r.peek (x.l + 2)), x.mate, x.alone, x.after⟩ : Dd), r.load (x.l + 2)) else ((⟨x.th, x.cap, x.wd, x.ver, x.chunk, x.draw, x.drew, 4, x.l, x.n, (r.peek (x.l + 2)), x.mate, x.alone, x.after⟩ : Dd), r.load (x.l + 2))
  else if x.line = 4 then ((⟨x.th, x.cap, x.wd, x.ver, x.chunk, x.draw, x.drew, 3, x.l, x.n, x.w, x.mate, x.alone, x.after⟩ : Dd), r.swap (x.l + 2) x.w (orOne x.w))
  else if x.line = 5 then if ¬ (r.peek (x.l + 4)) = 0 then ((⟨x.th, x.cap, x.wd, x.ver, x.chunk, x.draw, x.drew, 6, x.l, x.n, x.w, (r.peek (x.l + 4)), x.alone, x.after⟩ : Dd).eight, r.load (x.l + 4)) else ((⟨x.th, x.cap, x.wd, x.ver, x.chunk, x.draw, x.drew, 6, x.l, x.n, x.w, (r.peek (x.l + 4)), x.alone, x.after⟩ : Dd), r.load (x.l + 4))
  else if x.line = 6 then if x.draw = true ∧ ¬ x.n = 0 then ((⟨x.th, x.cap, x.wd, x.ver, x.chunk, x.draw, true, 7, x.l, x.n, x.w, x.mate, x.alone, x.after⟩ : Dd), r.swap (x.l + 4) 0 x.n) else ((⟨x.th, x.cap, x.wd, x.ver, x.chunk, x.draw, true, 7, x.l, x.n, x.w, x.mate, x.alone, x.after⟩ : Dd), r.swap (x.l + 4) 0 1)
  else if x.line = 7 then ((⟨x.th, x.cap, x.wd, x.ver, x.chunk, x.draw, x.drew, x.line, x.l, x.n, x.w, (r.peek (x.l + 4)), x.alone, x.after⟩ : Dd).eight, r.load (x.l + 4))
  else x.more r
theorem Dd.step_1 {x : Dd} {r : Rr} (h : x.line = 1)  : Dd.step x r = ((⟨x.th, x.cap, x.wd, x.ver, x.chunk, x.draw, x.drew, 2, x.l, x.n, x.w, x.mate, x.alone, x.after⟩ : Dd), r.swap (x.chunk + 3) 0 x.chunk) := by unfold Dd.step; rw [if_pos h]
theorem Dd.step_2 {x : Dd} {r : Rr} (h : x.line = 2)  : Dd.step x r = ((⟨x.th, x.cap, x.wd, x.ver, x.chunk, x.draw, x.drew, 3, (r.peek (x.chunk + 3)), x.n, x.w, x.mate, x.alone, x.after⟩ : Dd), r.load (x.chunk + 3)) := by unfold Dd.step; rw [if_neg (by omega), if_pos h]
theorem Dd.step_3a {x : Dd} {r : Rr} (h : x.line = 3) (h0 : (r.peek (x.l + 2)) % 2 = 1) : Dd.step x r = ((⟨x.th, x.cap, x.wd, x.ver, x.chunk, x.draw, x.drew, 5, x.l, ((r.peek (x.l + 2)) / 2), (r.peek (x.l + 2)), x.mate, x.alone, x.after⟩ : Dd), r.load (x.l + 2)) := by unfold Dd.step; rw [if_neg (by omega), if_neg (by omega), if_pos h, if_pos h0]
theorem Dd.step_3b {x : Dd} {r : Rr} (h : x.line = 3) (h0 : ¬ ((r.peek (x.l + 2)) % 2 = 1)) : Dd.step x r = ((⟨x.th, x.cap, x.wd, x.ver, x.chunk, x.draw, x.drew, 4, x.l, x.n, (r.peek (x.l + 2)), x.mate, x.alone, x.after⟩ : Dd), r.load (x.l + 2)) := by unfold Dd.step; rw [if_neg (by omega), if_neg (by omega), if_pos h, if_neg h0]
theorem Dd.step_4 {x : Dd} {r : Rr} (h : x.line = 4)  : Dd.step x r = ((⟨x.th, x.cap, x.wd, x.ver, x.chunk, x.draw, x.drew, 3, x.l, x.n, x.w, x.mate, x.alone, x.after⟩ : Dd), r.swap (x.l + 2) x.w (orOne x.w)) := by unfold Dd.step; rw [if_neg (by omega), if_neg (by omega), if_neg (by omega), if_pos h]
theorem Dd.step_5a {x : Dd} {r : Rr} (h : x.line = 5) (h0 : ¬ (r.peek (x.l + 4)) = 0) : Dd.step x r = ((⟨x.th, x.cap, x.wd, x.ver, x.chunk, x.draw, x.drew, 6, x.l, x.n, x.w, (r.peek (x.l + 4)), x.alone, x.after⟩ : Dd).eight, r.load (x.l + 4)) := by unfold Dd.step; rw [if_neg (by omega), if_neg (by omega), if_neg (by omega), if_neg (by omega), if_pos h, if_pos h0]
theorem Dd.step_5b {x : Dd} {r : Rr} (h : x.line = 5) (h0 : ¬ (¬ (r.peek (x.l + 4)) = 0)) : Dd.step x r = ((⟨x.th, x.cap, x.wd, x.ver, x.chunk, x.draw, x.drew, 6, x.l, x.n, x.w, (r.peek (x.l + 4)), x.alone, x.after⟩ : Dd), r.load (x.l + 4)) := by unfold Dd.step; rw [if_neg (by omega), if_neg (by omega), if_neg (by omega), if_neg (by omega), if_pos h, if_neg h0]
theorem Dd.step_6a {x : Dd} {r : Rr} (h : x.line = 6) (h0 : x.draw = true ∧ ¬ x.n = 0) : Dd.step x r = ((⟨x.th, x.cap, x.wd, x.ver, x.chunk, x.draw, true, 7, x.l, x.n, x.w, x.mate, x.alone, x.after⟩ : Dd), r.swap (x.l + 4) 0 x.n) := by unfold Dd.step; rw [if_neg (by omega), if_neg (by omega), if_neg (by omega), if_neg (by omega), if_neg (by omega), if_pos h, if_pos h0]
theorem Dd.step_6b {x : Dd} {r : Rr} (h : x.line = 6) (h0 : ¬ (x.draw = true ∧ ¬ x.n = 0)) : Dd.step x r = ((⟨x.th, x.cap, x.wd, x.ver, x.chunk, x.draw, true, 7, x.l, x.n, x.w, x.mate, x.alone, x.after⟩ : Dd), r.swap (x.l + 4) 0 1) := by unfold Dd.step; rw [if_neg (by omega), if_neg (by omega), if_neg (by omega), if_neg (by omega), if_neg (by omega), if_pos h, if_neg h0]
theorem Dd.step_7 {x : Dd} {r : Rr} (h : x.line = 7)  : Dd.step x r = ((⟨x.th, x.cap, x.wd, x.ver, x.chunk, x.draw, x.drew, x.line, x.l, x.n, x.w, (r.peek (x.l + 4)), x.alone, x.after⟩ : Dd).eight, r.load (x.l + 4)) := by unfold Dd.step; rw [if_neg (by omega), if_neg (by omega), if_neg (by omega), if_neg (by omega), if_neg (by omega), if_neg (by omega), if_pos h]
theorem Dd.step_o {x : Dd} {r : Rr} (h1 : ¬ x.line = 1) (h2 : ¬ x.line = 2) (h3 : ¬ x.line = 3) (h4 : ¬ x.line = 4) (h5 : ¬ x.line = 5) (h6 : ¬ x.line = 6) (h7 : ¬ x.line = 7) : Dd.step x r = x.more r := by unfold Dd.step; rw [if_neg h1, if_neg h2, if_neg h3, if_neg h4, if_neg h5, if_neg h6, if_neg h7]
theorem dd_New {a b c d chunk : Int} {dr : Bool} : Fn Tryz.prog 175 [.agg #[.int .i64 a, .int .i64 b, .int .i64 c, .int .i64 d], .int .i64 chunk, .bool dr] ([]) ([]) (fun v N H => ∃ b1, v = .pointer (some ⟨b1, 0, none⟩) ∧ N = [ddB b1 (⟨a, b, c, d, chunk, dr, false, 1, 0, 0, 0, 0, false, 0⟩ : Dd)] ∧ H = []) := by
 refine Fn.enter Tryz.func175 (by kernel_rfl) rfl (n := 12) rfl rfl (fun w => ?_)
 refine W ?_
 refine At.box rfl rfl rfl (.t rfl) (fun b1 hb1 => ⟨.all, ?_⟩)
 refine W ?_
 refine eA rfl (R.build bt_196 (.k rfl (.k rfl (.k rfl (.kc .nil)))) (.cons rfl (.cons rfl (.cons rfl (.cons rfl .nil)))) rfl) ?_
 refine At.box rfl rfl rfl (.t rfl) (fun b2 hb2 => ⟨.all, ?_⟩)
 refine W ?_
 exact At.final (N' := [ddB b2 (⟨a, b, c, d, chunk, dr, false, 1, 0, 0, 0, 0, false, 0⟩ : Dd)]) rfl (.t rfl) sl (⟨b2, rfl, rfl, rfl⟩)
theorem dd_alone {b : Nat} {x : Dd} : Fn Tryz.prog 177 [.pointer (some ⟨b, 0, none⟩)] ([]) ([ddB b x]) (IsM (.tuple #[]) [ddB b x.alon]) := by
 refine Fn.enter Tryz.func177 (by kernel_rfl) rfl (n := 15) rfl rfl (fun w => ?_)
 refine W ?_
 refine At.st1 rfl rfl sz_4 (.t rfl) .c rfl rfl (.h U0) ⟨.all, ?_⟩
 refine W ?_
 refine At.st1 rfl rfl sz_3 (.t rfl) (.t rfl) rfl rfl (.h U0) ⟨.all, ?_⟩
 refine W ?_
 refine At.st1 rfl rfl sz_3 (.t rfl) .c rfl rfl (.h U0) ⟨.all, ?_⟩
 refine W ?_
 exact At.final0 rfl (List.nil_sublist _) (⟨rfl, rfl, rfl⟩) _ (.inr rfl)
theorem dd_eight {b : Nat} {x : Dd} : Fn Tryz.prog 162 [.pointer (some ⟨b, 0, none⟩)] ([]) ([ddB b x]) (IsM (.tuple #[]) [ddB b x.eight]) := by
 refine Fn.enter Tryz.func162 (by kernel_rfl) rfl (n := 19) rfl rfl (fun w => ?_)
 refine W ?_
 refine At.st1 rfl rfl sz_3 (.t rfl) .c rfl rfl (.h U0) ⟨.all, ?_⟩
 refine Z ?_
 refine At.cond (.t rfl) (fun c1 => ?_) (fun c1 => ?_)
 ·
  refine W ?_
  refine cM rfl rfl rfl (.k rfl .nil) rfl (.h (.take .nil)) .nil (dd_alone (x := (⟨x.th, x.cap, x.wd, x.ver, x.chunk, x.draw, x.drew, 8, x.l, x.n, x.w, x.mate, x.alone, x.after⟩ : Dd))) rfl .nil ⟨.all, ?_⟩
  refine W ?_
  exact At.final0 rfl (List.nil_sublist _) (⟨rfl, rfl, by unfold Dd.eight; (rw [if_pos (by simp at c1; omega)]; done)⟩) _ (.inr rfl)
 ·
  refine W ?_
  exact At.final0 rfl (List.nil_sublist _) (⟨rfl, rfl, by unfold Dd.eight; (rw [if_neg (by simp at c1; omega)]; rfl)⟩) _ (.inr rfl)
theorem dd_more {b ba n : Nat} {wv : Value} {x : Dd} {r : Rr} (hx : x.ok) (hn : r.w.length = n) (hN : n ≤ 1000000) (hf : r.few) (hw : r.mid 1152921504606846976) : Fn Tryz.prog 163 [.pointer (some ⟨b, 0, none⟩), .pointer (some ⟨ba, 0, none⟩)] ([]) ([ddB b x, raB ba wv r, raW wv n r]) (IsM (.tuple #[]) [ddB b (x.more r).1, raB ba wv (x.more r).2, raW wv n (x.more r).2]) := by
 refine Fn.enter Tryz.func163 (by kernel_rfl) rfl (n := 95) rfl rfl (fun w => ?_)
 have hx0 := hx
 obtain ⟨hx1, hx2, hx3, hx4⟩ := hx
 refine Z ?_
 refine At.condD (.t rfl) (fun c1 => ?_) (fun c1 => ?_)
 ·
  have hl8 : x.line = 8 := (by simpa using c1); have hst := Dd.more_8 (r := r) hl8 
  refine W ?_
  refine At.drawL ([ddB b x]) [tt 0, tt 1, tt 2, tt 3, tt 4, tt 5, tt 6, tt 7, tt 8, tt 9] [] [ff 10] (keepOf sl) (by kernel_rfl) (by kernel_rfl) ?_
  refine V ?_
  refine At.stage kI ?_
  refine At.stage kz ?_
  refine cM rfl rfl rfl (.k rfl (.k rfl (.kc (.k rfl .nil)))) rfl (.h (.skip (.take (.take .nil)))) .nil (r_Swap (r := r) (i := x.n + 3) (o := 0) (x := x.l) hn hN hf) keysRa .nil ⟨kz, ?_⟩
  refine W ?_
  refine At.st1 rfl rfl sz_3 (.t rfl) .c rfl rfl (.h U0) ⟨.all, ?_⟩
  refine W ?_
  exact At.final0 rfl (List.nil_sublist _) (⟨rfl, rfl, by (rw [hst]; rfl)⟩) _ (.inr rfl)
 ·
  refine Z ?_
  refine At.condD (.t rfl) (fun c2 => ?_) (fun c2 => ?_)
  ·
   have hl9 : x.line = 9 := (by simpa using c2)
   refine W ?_
   refine At.st1 rfl rfl sz_3 (.t rfl) .c rfl rfl (.h U0) ⟨.all, ?_⟩
   refine W ?_
   refine At.reH (H' := [ddB b (⟨x.th, x.cap, x.wd, x.ver, x.chunk, x.draw, x.drew, 10, x.l, x.n, x.w, x.mate, x.alone, x.after⟩ : Dd), raB ba wv r, raW wv n r]) rfl ?_
   have hq : (⟨x.th, x.cap, x.wd, x.ver, x.chunk, x.draw, x.drew, 10, x.l, x.n, x.w, x.mate, x.alone, x.after⟩ : Dd).n = x.n := rfl
   refine At.drawL ([ddB b (⟨x.th, x.cap, x.wd, x.ver, x.chunk, x.draw, x.drew, 10, x.l, x.n, x.w, x.mate, x.alone, x.after⟩ : Dd)]) [tt 0, tt 1, tt 2, tt 3, tt 4, tt 5, tt 7, tt 8, tt 9, tt 10] [] [ff 6, tt 11] (keepOf sl) (by kernel_rfl) (by kernel_rfl) ?_
   refine V ?_
   refine At.stage kI ?_
   refine At.stage kz ?_
   refine cM rfl rfl rfl (.k rfl (.k rfl .nil)) rfl (.h (.skip (.take (.take .nil)))) .nil (r_Load (r := r) (i := x.n + 3) hn hN hf) keysRa .nil ⟨kz, ?_⟩
   refine Z ?_
   refine At.condN (.t rfl) (fun c3 => ?_) (fun c3 => ?_)
   ·
    have hst := Dd.more_9a (r := r) hl9 (by simpa using c3)
    refine W ?_
    refine cM rfl rfl rfl (.k rfl .nil) rfl (.h (.take .nil)) .nil (dd_alone (x := (⟨x.th, x.cap, x.wd, x.ver, x.chunk, x.draw, x.drew, 10, x.l, x.n, x.w, x.mate, x.alone, x.after⟩ : Dd))) rfl .nil ⟨.all, ?_⟩
    refine W ?_
    exact At.final0 rfl (List.nil_sublist _) (⟨rfl, rfl, by (rw [hst]; done)⟩) _ (.inr rfl)
   ·
    have hst := Dd.more_9b (r := r) hl9 (by simpa using c3)
    refine W ?_
    exact At.final0 rfl (List.nil_sublist _) (⟨rfl, rfl, by (rw [hst]; done)⟩) _ (.inr rfl)
  ·
   refine Z ?_
   refine At.condD (.t rfl) (fun c4 => ?_) (fun c4 => ?_)
   ·
    have hl10 : x.line = 10 := (by simpa using c4)
    refine W ?_
    refine cM rfl rfl rfl (.k rfl (.k rfl .nil)) rfl (.h (.skip (.take (.take .nil)))) .nil (r_Load (r := r) (i := x.n + 2) hn hN hf) keysRa .nil ⟨.all, ?_⟩
    refine W ?_
    refine At.st1 rfl rfl sz_3 (.t rfl) (.t rfl) rfl rfl (.h U0) ⟨.all, ?_⟩
    refine W ?_
    refine At.st1 rfl rfl sz_3 (.t rfl) .c rfl rfl (.h U0) ⟨.all, ?_⟩
    refine W ?_
    refine At.callVR rfl rfl rfl (.k rfl .nil) (.nil) (fun hg => r_Marked) .all ?_
    refine W ?_
    refine At.condD (.t rfl) (fun c5 => ?_) (fun c5 => ?_)
    ·
     have hst := Dd.more_10a (r := r) hl10 (by simpa using c5)
     refine W ?_
     refine At.callVR rfl rfl rfl (.k rfl .nil) (.nil) (fun hg => r_At) .all ?_
     refine W ?_
     refine At.st1 rfl rfl sz_3 (.t rfl) (.t rfl) rfl rfl (.h U0) ⟨.all, ?_⟩
     refine W ?_
     refine At.st1 rfl rfl sz_3 (.t rfl) .c rfl rfl (.h U0) ⟨.all, ?_⟩
     refine W ?_
     exact At.final0 rfl (List.nil_sublist _) (⟨rfl, rfl, by (rw [hst]; rfl)⟩) _ (.inr rfl)
    ·
     have hst := Dd.more_10b (r := r) hl10 (by simpa using c5)
     refine W ?_
     exact At.final0 rfl (List.nil_sublist _) (⟨rfl, rfl, by (rw [hst]; rfl)⟩) _ (.inr rfl)
   ·
    refine Z ?_
    refine At.condD (.t rfl) (fun c6 => ?_) (fun c6 => ?_)
    ·
     have hl11 : x.line = 11 := (by simpa using c6); have hst := Dd.more_11 (r := r) hl11 
     refine W ?_
     refine At.drawL ([ddB b x]) [tt 0, tt 1, tt 2, tt 3, tt 4, tt 5, tt 6, tt 7, tt 8, tt 9, tt 10, tt 11, tt 12, tt 13, tt 14] [] [ff 15] (keepOf sl) (by kernel_rfl) (by kernel_rfl) ?_
     refine W ?_
     refine sC rfl kz (R.or1V (.t rfl) gO) ?_
     refine At.stage kI ?_
     refine At.stage kz ?_
     refine cM rfl rfl rfl (.k rfl (.k rfl (.k rfl (.k rfl .nil)))) rfl (.h (.skip (.take (.take .nil)))) .nil (r_Swap (r := r) (i := x.n + 2) (o := x.w) (x := orOne x.w) hn hN hf) keysRa .nil ⟨kz, ?_⟩
     refine W ?_
     refine At.st1 rfl rfl sz_3 (.t rfl) .c rfl rfl (.h U0) ⟨.all, ?_⟩
     refine W ?_
     exact At.final0 rfl (List.nil_sublist _) (⟨rfl, rfl, by (rw [hst]; rfl)⟩) _ (.inr rfl)
    ·
     have hst := Dd.more_o (r := r) (by simpa using c1) (by simpa using c2) (by simpa using c4) (by simpa using c6)
     refine W ?_
     exact At.final0 rfl (List.nil_sublist _) (⟨rfl, rfl, by (rw [hst]; done)⟩) _ (.inr rfl)
theorem dd_Step {b ba n : Nat} {wv : Value} {x : Dd} {r : Rr} (hx : x.ok) (hn : r.w.length = n) (hN : n ≤ 1000000) (hf : r.few) (hw : r.mid 1152921504606846976) : Fn Tryz.prog 141 [.pointer (some ⟨b, 0, none⟩), .pointer (some ⟨ba, 0, none⟩)] ([]) ([ddB b x, raB ba wv r, raW wv n r]) (IsM (.bool (decide ((x.step r).1.line = 0))) [ddB b (x.step r).1, raB ba wv (x.step r).2, raW wv n (x.step r).2]) := by
 refine Fn.enter Tryz.func141 (by kernel_rfl) rfl (n := 168) rfl rfl (fun w => ?_)
 have hx0 := hx
 obtain ⟨hx1, hx2, hx3, hx4⟩ := hx
 refine Z ?_
 refine At.condD (.t rfl) (fun c1 => ?_) (fun c1 => ?_)
 ·
  have hl1 : x.line = 1 := (by simpa using c1); have hst := Dd.step_1 (r := r) hl1 
  refine W ?_
  refine At.drawL ([ddB b x]) [tt 0, tt 1, tt 2, tt 3, tt 4, tt 5, tt 6, tt 7, tt 8, tt 9] [] [ff 10] (keepOf sl) (by kernel_rfl) (by kernel_rfl) ?_
  refine V ?_
  refine At.stage kI ?_
  refine At.stage kz ?_
  refine cM rfl rfl rfl (.k rfl (.k rfl (.kc (.k rfl .nil)))) rfl (.h (.skip (.take (.take .nil)))) .nil (r_Swap (r := r) (i := x.chunk + 3) (o := 0) (x := x.chunk) hn hN hf) keysRa .nil ⟨kz, ?_⟩
  refine W ?_
  refine At.st1 rfl rfl sz_3 (.t rfl) .c rfl rfl (.h U0) ⟨.all, ?_⟩
  refine Y ?_
  exact fT rfl (.t rfl) (⟨by (rw [hst]; rfl), rfl, by (rw [hst]; rfl)⟩)
 ·
  refine Z ?_
  refine At.condD (.t rfl) (fun c2 => ?_) (fun c2 => ?_)
  ·
   have hl2 : x.line = 2 := (by simpa using c2); have hst := Dd.step_2 (r := r) hl2 
   refine W ?_
   refine cM rfl rfl rfl (.k rfl (.k rfl .nil)) rfl (.h (.skip (.take (.take .nil)))) .nil (r_Load (r := r) (i := x.chunk + 3) hn hN hf) keysRa .nil ⟨.all, ?_⟩
   refine W ?_
   refine At.st1 rfl rfl sz_3 (.t rfl) (.t rfl) rfl rfl (.h U0) ⟨.all, ?_⟩
   refine W ?_
   refine At.st1 rfl rfl sz_3 (.t rfl) .c rfl rfl (.h U0) ⟨.all, ?_⟩
   refine Y ?_
   exact fT rfl (.t rfl) (⟨by (rw [hst]; rfl), rfl, by (rw [hst]; rfl)⟩)
  ·
   refine Z ?_
   refine At.condD (.t rfl) (fun c3 => ?_) (fun c3 => ?_)
   ·
    have hl3 : x.line = 3 := (by simpa using c3)
    refine W ?_
    refine cM rfl rfl rfl (.k rfl (.k rfl .nil)) rfl (.h (.skip (.take (.take .nil)))) .nil (r_Load (r := r) (i := x.l + 2) hn hN hf) keysRa .nil ⟨.all, ?_⟩
    refine W ?_
    refine At.st1 rfl rfl sz_3 (.t rfl) (.t rfl) rfl rfl (.h U0) ⟨.all, ?_⟩
    refine W ?_
    refine At.st1 rfl rfl sz_3 (.t rfl) .c rfl rfl (.h U0) ⟨.all, ?_⟩
    refine W ?_
    refine At.callVR rfl rfl rfl (.k rfl .nil) (.nil) (fun hg => r_Marked) .all ?_
    refine W ?_
    refine At.condD (.t rfl) (fun c4 => ?_) (fun c4 => ?_)
    ·
     have hst := Dd.step_3a (r := r) hl3 (by simpa using c4)
     refine W ?_
     refine At.callVR rfl rfl rfl (.k rfl .nil) (.nil) (fun hg => r_At) .all ?_
     refine W ?_
     refine At.st1 rfl rfl sz_3 (.t rfl) (.t rfl) rfl rfl (.h U0) ⟨.all, ?_⟩
     refine W ?_
     refine At.st1 rfl rfl sz_3 (.t rfl) .c rfl rfl (.h U0) ⟨.all, ?_⟩
     refine Y ?_
     exact fT rfl (.t rfl) (⟨by (rw [hst]; rfl), rfl, by (rw [hst]; rfl)⟩)
    ·
     have hst := Dd.step_3b (r := r) hl3 (by simpa using c4)
     refine Y ?_
     exact fT rfl (.t rfl) (⟨by (rw [hst]; rfl), rfl, by (rw [hst]; rfl)⟩)
   ·
    refine Z ?_
    refine At.condD (.t rfl) (fun c5 => ?_) (fun c5 => ?_)
    ·
     have hl4 : x.line = 4 := (by simpa using c5); have hst := Dd.step_4 (r := r) hl4 
     refine W ?_
     refine At.drawL ([ddB b x]) [tt 0, tt 1, tt 2, tt 3, tt 4, tt 5, tt 6, tt 7, tt 8, tt 9, tt 10, tt 11, tt 12, tt 13, tt 14] [] [ff 15] (keepOf sl) (by kernel_rfl) (by kernel_rfl) ?_
     refine W ?_
     refine sC rfl kz (R.or1V (.t rfl) gO) ?_
     refine At.stage kI ?_
     refine At.stage kz ?_
     refine cM rfl rfl rfl (.k rfl (.k rfl (.k rfl (.k rfl .nil)))) rfl (.h (.skip (.take (.take .nil)))) .nil (r_Swap (r := r) (i := x.l + 2) (o := x.w) (x := orOne x.w) hn hN hf) keysRa .nil ⟨kz, ?_⟩
     refine W ?_
     refine At.st1 rfl rfl sz_3 (.t rfl) .c rfl rfl (.h U0) ⟨.all, ?_⟩
     refine Y ?_
     exact fT rfl (.t rfl) (⟨by (rw [hst]; rfl), rfl, by (rw [hst]; rfl)⟩)
    ·
     refine Z ?_
     refine At.condD (.t rfl) (fun c6 => ?_) (fun c6 => ?_)
     ·
      have hl5 : x.line = 5 := (by simpa using c6)
      refine W ?_
      refine cM rfl rfl rfl (.k rfl (.k rfl .nil)) rfl (.h (.skip (.take (.take .nil)))) .nil (r_Load (r := r) (i := x.l + 4) hn hN hf) keysRa .nil ⟨.all, ?_⟩
      refine W ?_
      refine At.st1 rfl rfl sz_3 (.t rfl) (.t rfl) rfl rfl (.h U0) ⟨.all, ?_⟩
      refine W ?_
      refine At.st1 rfl rfl sz_3 (.t rfl) .c rfl rfl (.h U0) ⟨.all, ?_⟩
      refine Z ?_
      refine At.condN (.t rfl) (fun c7 => ?_) (fun c7 => ?_)
      ·
       have hst := Dd.step_5a (r := r) hl5 (by simpa using c7)
       refine W ?_
       refine cM rfl rfl rfl (.k rfl .nil) rfl (.h (.take .nil)) .nil (dd_eight (x := (⟨x.th, x.cap, x.wd, x.ver, x.chunk, x.draw, x.drew, 6, x.l, x.n, x.w, (r.peek (x.l + 4)), x.alone, x.after⟩ : Dd))) rfl .nil ⟨.all, ?_⟩
       refine Z ?_
       exact fT rfl (.t rfl) (⟨by (rw [hst]; done), rfl, by (rw [hst]; done)⟩)
      ·
       have hst := Dd.step_5b (r := r) hl5 (by simpa using c7)
       refine Y ?_
       exact fT rfl (.t rfl) (⟨by (rw [hst]; rfl), rfl, by (rw [hst]; rfl)⟩)
     ·
      refine Z ?_
      refine At.condD (.t rfl) (fun c8 => ?_) (fun c8 => ?_)
      ·
       have hl6 : x.line = 6 := (by simpa using c8)
       refine Z ?_
       refine At.cond (.t rfl) (fun c9 => ?_) (fun c9 => ?_)
       ·
        have hst := Dd.step_6a (r := r) hl6 (by simpa using c9)
        refine W ?_
        refine cM rfl rfl rfl (.k rfl (.k rfl (.kc (.k rfl .nil)))) rfl (.h (.skip (.take (.take .nil)))) .nil (r_Swap (r := r) (i := x.l + 4) (o := 0) (x := x.n) hn hN hf) keysRa .nil ⟨.all, ?_⟩
        refine W ?_
        refine At.st1 rfl rfl sz_4 (.t rfl) .c rfl rfl (.h U0) ⟨.all, ?_⟩
        refine W ?_
        refine At.st1 rfl rfl sz_3 (.t rfl) .c rfl rfl (.h U0) ⟨.all, ?_⟩
        refine Y ?_
        exact fT rfl (.t rfl) (⟨by (rw [hst]; rfl), rfl, by (rw [hst]; rfl)⟩)
       ·
        have hst := Dd.step_6b (r := r) hl6 (by simpa using c9)
        refine W ?_
        refine cM rfl rfl rfl (.k rfl (.k rfl (.kc (.k rfl .nil)))) rfl (.h (.skip (.take (.take .nil)))) .nil (r_Swap (r := r) (i := x.l + 4) (o := 0) (x := 1) hn hN hf) keysRa .nil ⟨.all, ?_⟩
        refine W ?_
        refine At.st1 rfl rfl sz_4 (.t rfl) .c rfl rfl (.h U0) ⟨.all, ?_⟩
        refine W ?_
        refine At.st1 rfl rfl sz_3 (.t rfl) .c rfl rfl (.h U0) ⟨.all, ?_⟩
        refine Y ?_
        exact fT rfl (.t rfl) (⟨by (rw [hst]; rfl), rfl, by (rw [hst]; rfl)⟩)
      ·
       refine Z ?_
       refine At.condD (.t rfl) (fun c10 => ?_) (fun c10 => ?_)
       ·
        have hl7 : x.line = 7 := (by simpa using c10); have hst := Dd.step_7 (r := r) hl7 
        refine W ?_
        refine cM rfl rfl rfl (.k rfl (.k rfl .nil)) rfl (.h (.skip (.take (.take .nil)))) .nil (r_Load (r := r) (i := x.l + 4) hn hN hf) keysRa .nil ⟨.all, ?_⟩
        refine W ?_
        refine At.st1 rfl rfl sz_3 (.t rfl) (.t rfl) rfl rfl (.h U0) ⟨.all, ?_⟩
        refine W ?_
        refine cM rfl rfl rfl (.k rfl .nil) rfl (.h (.take .nil)) .nil (dd_eight (x := (⟨x.th, x.cap, x.wd, x.ver, x.chunk, x.draw, x.drew, x.line, x.l, x.n, x.w, (r.peek (x.l + 4)), x.alone, x.after⟩ : Dd))) rfl .nil ⟨.all, ?_⟩
        refine Z ?_
        exact fT rfl (.t rfl) (⟨by (rw [hst]; done), rfl, by (rw [hst]; done)⟩)
       ·
        have hst := Dd.step_o (r := r) (by simpa using c1) (by simpa using c2) (by simpa using c3) (by simpa using c5) (by simpa using c6) (by simpa using c8) (by simpa using c10)
        refine W ?_
        refine cM rfl rfl rfl (.k rfl (.k rfl .nil)) rfl (.h (.take (.take (.take .nil)))) .nil (dd_more (x := x) (r := r) hx0 hn hN hf hw) keysDd .nil ⟨.all, ?_⟩
        refine Z ?_
        exact fT rfl (.t rfl) (⟨by (rw [hst]; done), rfl, by (rw [hst]; done)⟩)
theorem dd_Chunks {b : Nat} {x : Dd} : Fn Tryz.prog 142 [.pointer (some ⟨b, 0, none⟩)] ([ddB b x]) ([]) (IsV (.tuple #[.int .i64 x.ch1, .int .i64 x.ch2, .int .i64 x.ch3])) := by
 refine Fn.enter Tryz.func142 (by kernel_rfl) rfl (n := 34) rfl rfl (fun w => ?_)
 refine Z ?_
 refine At.condN (.t rfl) (fun c1 => ?_) (fun c1 => ?_)
 ·
  have hz : ¬ x.line = 0 := (by simpa using c1)
  refine W ?_
  exact At.final3 rfl (.t rfl) (.t rfl) (.t rfl) (List.nil_sublist _) (⟨by unfold Dd.ch1 Dd.ch2 Dd.ch3; (rw [if_neg hz, if_neg hz, if_neg hz]; done), rfl, rfl⟩)
 ·
  have hz : x.line = 0 := (by simpa using c1)
  refine W ?_
  refine At.cond (.t rfl) (fun c2 => ?_) (fun c2 => ?_)
  ·
   refine W ?_
   refine At.drawK [tt 0, tt 1, tt 2, tt 3, tt 4, tt 5, tt 6, tt 7, tt 8, tt 9, tt 10] (by kernel_rfl) (by kernel_rfl) ?_
   refine W ?_
   exact At.final3 rfl (.t rfl) (.t rfl) (.t rfl) (List.nil_sublist _) (⟨by unfold Dd.ch1 Dd.ch2 Dd.ch3; (rw [if_pos hz, if_pos hz, if_pos hz, if_pos c2]; rfl), rfl, rfl⟩)
  ·
   refine W ?_
   refine At.drawK [tt 0, tt 1, tt 2, tt 3, tt 4, tt 5, tt 6, tt 7, tt 8, tt 9, tt 10, tt 11, tt 12, tt 13, tt 14] (by kernel_rfl) (by kernel_rfl) ?_
   refine W ?_
   exact At.final3 rfl (.t rfl) (.t rfl) (.t rfl) (List.nil_sublist _) (⟨by unfold Dd.ch1 Dd.ch2 Dd.ch3; (rw [if_pos hz, if_pos hz, if_pos hz, if_neg (by simpa using c2)]; rfl), rfl, rfl⟩)
end Go.Proofs.YtbolanigdkgbdaaGreat
