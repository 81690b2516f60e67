/- Part of the proof: lemmas for what the last file states; no condition. -/
import Derived.Test.YtbolanigdkgbdaaGreatZF3
import Derived.Test.YtbolanigdkgbdaaGreatProg
set_option linter.unusedSectionVars false
namespace Go.Proofs.YtbolanigdkgbdaaGreat
open Go Go.RowKit
set_option maxRecDepth 10000
set_option linter.unusedVariables false
theorem bt_43 : buildTab Tryz.prog 43 = some (#[.int .i64 0, .int .i64 0, .int .i64 0], [(0, 1), (1, 1), (2, 1)]) := by kernel_rfl
theorem et_3 : elemTab Tryz.prog 3 = some (1, 8) := by kernel_rfl
theorem et_43 : elemTab Tryz.prog 43 = some (3, 24) := by kernel_rfl
theorem fo_43_0 : fieldOff? Tryz.prog 43 0 = some 0 := by kernel_rfl
theorem fo_43_1 : fieldOff? Tryz.prog 43 1 = some 1 := by kernel_rfl
theorem fq_43 : flatQ Tryz.prog 43 = some [true, true, true] := by kernel_rfl
theorem sz_3 : (Tryz.prog.info? 3).map (·.size) = some 1 := by kernel_rfl
theorem sz_43 : (Tryz.prog.info? 43).map (·.size) = some 3 := by kernel_rfl
theorem ze_43 : (Tryz.prog.info? 43).bind (·.zero) = some (.agg #[.int .i64 0, .int .i64 0, .int .i64 0]) := by kernel_rfl
def latB (b : Option Itm) (x : Itm) (key ver : Int) : Bool := decide (x.key = key) && decide (x.ver ≤ ver) && (match b with | none => true | some y => decide (y.ver ≤ x.ver))
def latF (l : List Itm) (key ver : Int) : Option Itm := l.foldl (fun b x => if latB b x key ver then some x else b) none
def latV (l : List Itm) (key ver : Int) : Value := .tuple #[.agg (iK.enc ((latF l key ver).getD default)).toArray, .bool (latF l key ver).isSome]
theorem latV_of {l : List Itm} {key ver : Int} {o : Option Itm} (h : latF l key ver = o) : Value.tuple #[.agg (iK.enc (o.getD default)).toArray, .bool o.isSome] = latV l key ver := by subst h; rfl
def gtI (x y : Itm) : Bool := decide (y.key < x.key) || (decide (x.key = y.key) && decide (y.ver < x.ver))
def posF (out : List Itm) (x : Itm) : Nat → Nat
  | 0 => 0
  | k + 1 => if gtI (gE out (k : Nat)) x then posF out x k else k + 1
def insF (out : List Itm) (x : Itm) : List Itm := out.take (posF out x out.length) ++ [x] ++ out.drop (posF out x out.length)
def sortF (l : List Itm) : List Itm := l.foldl insF []
theorem posF_le (out : List Itm) (x : Itm) : ∀ k, posF out x k ≤ k
  | 0 => Nat.le_refl _
  | k + 1 => by unfold posF; split
                · exact Nat.le_succ_of_le (posF_le out x k)
                · exact Nat.le_refl _
theorem insF_length (out : List Itm) (x : Itm) : (insF out x).length = out.length + 1 := by
  have := posF_le out x out.length
  simp [insF]; omega
theorem take_succ_gE {l : List Itm} {i : Nat} (h : i < l.length) : l.take (i + 1) = l.take i ++ [gE l (i : Int)] := by
  rw [List.take_succ_eq_append_getElem h]; simp [gE, h]
theorem sortF_length (l : List Itm) : (sortF l).length = l.length := by
  have : ∀ (l o : List Itm), (l.foldl insF o).length = o.length + l.length := by
    intro l
    induction l with
    | nil => intro o; simp
    | cons x l ih => intro o; rw [List.foldl_cons, ih, insF_length, List.length_cons]; omega
  have h := this l []
  rw [List.length_nil, Nat.zero_add] at h
  exact h
def keysS (out : List Int) (x : Itm) : List Int := if out.length = 0 ∨ gE out ((out.length : Int) - 1) ≠ x.key then out ++ [x.key] else out
def keysF (l : List Itm) : List Int := l.foldl keysS []
theorem keysF_step {l : List Itm} {i : Nat} (h : i < l.length) : keysF (l.take (i + 1)) = keysS (keysF (l.take i)) (gE l (i : Int)) := by
  rw [take_succ_gE h]; unfold keysF; rw [List.foldl_append]; rfl
theorem keysS_yes {out : List Int} {x : Itm} (h : (out.length : Int) = 0 ∨ ¬ gE out ((out.length : Int) - 1) = x.key) : keysS out x = out ++ [x.key] := if_pos (by rcases h with h | h; exact .inl (by omega); exact .inr h)
theorem keysS_no {out : List Int} {x : Itm} (h : ¬ (out.length : Int) = 0 ∧ gE out ((out.length : Int) - 1) = x.key) : keysS out x = out := if_neg (by rintro (h1 | h1); exact h.1 (by omega); exact h1 h.2)
theorem latF_step {l : List Itm} {key ver : Int} {i : Nat} (h : i < l.length) : latF (l.take (i + 1)) key ver = if latB (latF (l.take i) key ver) (gE l (i : Int)) key ver then some (gE l (i : Int)) else latF (l.take i) key ver := by
  rw [take_succ_gE h]; unfold latF; rw [List.foldl_append]; rfl
theorem latB_of {l : List Itm} {key ver b : Int} {i : Nat} (h : (b = -1 ∧ latF (l.take i) key ver = none) ∨ (0 ≤ b ∧ b < i ∧ latF (l.take i) key ver = some (gE l b))) :
    latB (latF (l.take i) key ver) (gE l (i : Int)) key ver = (decide ((gE l (i : Int)).key = key) && decide ((gE l (i : Int)).ver ≤ ver) && (decide (b < 0) || decide ((gE l b).ver ≤ (gE l (i : Int)).ver))) := by
  rcases h with ⟨h1, h2⟩ | ⟨h1, h2, h3⟩
  · rw [h2]; simp [latB, h1]
  · rw [h3]; have : ¬ b < 0 := by omega
    simp [latB, this]
theorem latF_yes {l : List Itm} {key ver b : Int} {i : Nat} (hi : i < l.length) (h : (b = -1 ∧ latF (l.take i) key ver = none) ∨ (0 ≤ b ∧ b < i ∧ latF (l.take i) key ver = some (gE l b)))
    (hc : ((gE l (i : Int)).key = key ∧ (gE l (i : Int)).ver ≤ ver) ∧ (b < 0 ∨ (gE l b).ver ≤ (gE l (i : Int)).ver)) : latF (l.take (i + 1)) key ver = some (gE l (i : Int)) := by
  rw [latF_step hi, latB_of h, if_pos (by simpa using hc)]
theorem latF_no {l : List Itm} {key ver b : Int} {i : Nat} (hi : i < l.length) (h : (b = -1 ∧ latF (l.take i) key ver = none) ∨ (0 ≤ b ∧ b < i ∧ latF (l.take i) key ver = some (gE l b)))
    (hc : (gE l (i : Int)).key = key → (gE l (i : Int)).ver ≤ ver → 0 ≤ b ∧ (gE l (i : Int)).ver < (gE l b).ver) : (b = -1 ∧ latF (l.take (i + 1)) key ver = none) ∨ (0 ≤ b ∧ b < ((i + 1 : Nat) : Int) ∧ latF (l.take (i + 1)) key ver = some (gE l b)) := by
  have e : latF (l.take (i + 1)) key ver = latF (l.take i) key ver := by
    rw [latF_step hi, latB_of h, if_neg (by simpa using hc)]
  rw [e]
  rcases h with h | ⟨h1, h2, h3⟩
  · exact .inl h
  · exact .inr ⟨h1, by omega, h3⟩
theorem sortF_step {l : List Itm} {i : Nat} (h : i < l.length) : insF (sortF (l.take i)) (gE l (i : Int)) = sortF (l.take (i + 1)) := by
  rw [take_succ_gE h]; simp [sortF]
theorem posF_down {out : List Itm} {x : Itm} {k : Nat} (h0 : 0 < k) (_hk : k ≤ out.length) (h : (out.length ≥ 0) → ((decide (x.key < (gE out ((k : Int) - 1)).key) || (decide ((gE out ((k : Int) - 1)).key = x.key) && decide (x.ver < (gE out ((k : Int) - 1)).ver))) = true)) : posF out x k = posF out x (k - 1) := by
  obtain ⟨k, rfl⟩ : ∃ j, k = j + 1 := ⟨k - 1, by omega⟩
  have e : ((k + 1 : Nat) : Int) - 1 = (k : Nat) := by omega
  rw [e] at h
  have h' : gtI (gE out (k : Nat)) x = true := h (Nat.zero_le _)
  simp [posF, h']
theorem posF_stop {out : List Itm} {x : Itm} {k : Nat} (h : 0 < k → gtI (gE out ((k : Int) - 1)) x = false) : posF out x k = k := by
  cases k with
  | zero => rfl
  | succ k =>
    have e : ((k + 1 : Nat) : Int) - 1 = (k : Nat) := by omega
    have := h (by omega)
    rw [e] at this
    simp [posF, this]
theorem insF_of {out : List Itm} {x : Itm} {k : Nat} (hk : k ≤ out.length) (h : posF out x out.length = k) : [] ++ (out.drop 0).take (k - 0) ++ [x] ++ (out.drop k).take (out.length - k) = insF out x := by
  rw [insF, h, List.take_of_length_le (l := out.drop k) (by simp)]; simp
theorem take_eq_all {α : Type} {a b : List α} {i : Nat} (h1 : i ≤ a.length) (h2 : a.length = b.length) (h3 : a.take i = b.take i) (h : a.length ≤ i) : a = b := by
  rwa [List.take_of_length_le h, List.take_of_length_le (by omega)] at h3
theorem take_step {α : Type} [Inhabited α] {a b : List α} {i : Nat} (h2 : a.length = b.length) (h3 : a.take i = b.take i) (h : i < a.length) (he : gE a (i : Int) = gE b (i : Int)) : a.take (i + 1) = b.take (i + 1) := by
  have hb : i < b.length := by omega
  simp only [gE, Int.toNat_natCast, List.getD_eq_getElem?_getD, List.getElem?_eq_getElem h, List.getElem?_eq_getElem hb, Option.getD_some] at he
  rw [List.take_succ_eq_append_getElem h, List.take_succ_eq_append_getElem hb, h3, he]
theorem c_SameItems {u v : Value} {a b : List Itm} : Fn Tryz.prog 22 [u, v] [rdE iK u a, rdE iK v b] [] (IsV (.bool (decide (a = b)))) := by
 refine Fn.enter Tryz.func22 (by kernel_rfl) rfl (n := 26) rfl rfl (fun w => ?_)
 refine At.len (v := u) (rS M0) (fun hl1 => ?_)
 refine At.len (v := v) (rS M1) (fun hl2 => ?_)
 refine Z ?_
 refine At.condN (.t rfl) (fun c1 => ?_) (fun c1 => ?_)
 ·
  have c1n : a.length ≠ b.length := by omega
  refine W ?_
  exact fT rfl (.t rfl) (⟨congrArg Value.bool (by (symm; apply decide_eq_false; (intro e; subst e; omega))), rfl, rfl⟩)
 ·
  have c1n : a.length = b.length := by omega
  refine W ?_
  refine At.loop1 (fun (i : Nat) => i ≤ a.length ∧ a.length = b.length ∧ a.take i = b.take i) (fun (i : Nat) => a.length - i) (fun (i : Nat) => [(0, true, u), (1, true, v), (5, true, .int .i64 i)]) (fun (i : Nat) => []) (fun (i : Nat) => []) (0) ⟨Nat.zero_le _, by omega, by simp⟩ (.cons rfl (.cons rfl (.cons rfl .nil))) (List.Sublist.refl _) rfl (fun i hi => ?_)
  obtain ⟨hi1, hi2, hi3⟩ := hi
  refine Z ?_
  refine At.condD (.t rfl) (fun c2 => ?_) (fun c2 => ?_)
  ·
   refine W ?_
   refine At.drawK [tt 0, tt 1, tt 2, tt 3, tt 4, tt 5, tt 6, tt 7, tt 8] (by kernel_rfl) (by kernel_rfl) ?_
   refine W ?_
   refine sJ rfl (R.loadRdAgg (us := iK.enc _) Tryz.underlying43 rfl sz_43 (.t rfl) (rK M0) gO (fun hg => by exact Ek.getA (by omega))) ?_
   refine W ?_
   refine sJ rfl (R.loadRdAgg (us := iK.enc _) Tryz.underlying43 rfl sz_43 (.t rfl) (rK M1) gO (fun hg => by exact Ek.getA (by omega))) ?_
   refine sJ rfl (R.as (R.neqS fq_43 (.t rfl) (.t rfl) rfl) (fun _ => congrArg (fun b => Value.bool (!b)) iK_eqb)) ?_
   refine W ?_
   refine At.condN (.t rfl) (fun c3 => ?_) (fun c3 => ?_)
   ·
    refine W ?_
    exact fT rfl (.t rfl) (⟨congrArg Value.bool (by (symm; apply decide_eq_false; (intro e; subst e; contradiction))), rfl, rfl⟩)
   ·
    refine W ?_
    exact At.again1 (i + 1) ⟨by omega, by omega, take_step hi2 hi3 (by omega) (by simpa using c3)⟩ (by omega) (.cons rfl (.cons rfl (.cons rfl .nil))) (List.Sublist.refl _) rfl
  ·
   refine W ?_
   exact fT rfl (.t rfl) (⟨congrArg Value.bool (by (symm; apply decide_eq_true; exact take_eq_all hi1 hi2 hi3 (by omega))), rfl, rfl⟩)
theorem c_rSort {u : Value} {l : List Itm} (hL : l.length ≤ 1000) : Fn Tryz.prog 57 [u] [rdE iK u l] [] (IsR iK 43 (sortF l)) := by
 refine Fn.enter Tryz.func57 (by kernel_rfl) rfl (n := 75) rfl rfl (fun w => ?_)
 refine At.len (v := u) (rS M0) (fun hl1 => ?_)
 refine W ?_
 refine At.nilRow iK 43 ?_
 refine At.loop3 (fun (i : Nat) (out : List Itm) (v : Value) => i ≤ l.length ∧ out = sortF (l.take i) ∧ out.length = i) (fun (i : Nat) (out : List Itm) (v : Value) => l.length - i) (fun (i : Nat) (out : List Itm) (v : Value) => [(0, true, u), (3, true, v), (4, true, .int .i64 i)]) (fun (i : Nat) (out : List Itm) (v : Value) => [rowE iK 43 v out]) (fun (i : Nat) (out : List Itm) (v : Value) => []) (0) ([]) (.slice none 0 0) ⟨Nat.zero_le _, by simp [sortF], rfl⟩ (.cons rfl (.cons rfl (.cons rfl .nil))) (List.Sublist.refl _) rfl (fun i out v hi => ?_)
 obtain ⟨hi1, hi2, hi3⟩ := hi
 refine Z ?_
 refine At.condD (.t rfl) (fun c1 => ?_) (fun c1 => ?_)
 ·
  refine W ?_
  refine At.loop1 (fun (k : Nat) => k ≤ out.length ∧ posF out (gE l i) out.length = posF out (gE l i) k) (fun (k : Nat) => k) (fun (k : Nat) => [(0, true, u), (3, true, v), (4, true, .int .i64 i), (5, true, .int .i64 k)]) (fun (k : Nat) => [rowE iK 43 v out]) (fun (k : Nat) => []) (out.length) ⟨Nat.le_refl _, rfl⟩ (.cons rfl (.cons rfl (.cons rfl (.cons rfl .nil)))) (List.Sublist.refl _) rfl (fun k hi => ?_)
  obtain ⟨hk1, hk2⟩ := hi
  refine W ?_
  refine At.drawK [tt 0, tt 1, tt 2, tt 3, tt 4, tt 5, tt 6, tt 7, tt 8, tt 9, tt 10, tt 11, tt 12, tt 13, tt 14, tt 15, tt 16, tt 17, tt 18, tt 19, tt 20, tt 21, tt 22, tt 23, tt 24, tt 25, tt 26, tt 27, tt 28, tt 29, tt 30, tt 31, tt 32, tt 33, tt 34, tt 35, tt 36, tt 37, tt 38, tt 39, tt 40, tt 41, tt 42, tt 43] (by kernel_rfl) (by kernel_rfl) ?_
  refine U ?_
  refine sJ rfl (R.gtr (.t rfl) .c) ?_
  refine U ?_
  refine sJ rfl (R.subI (.s rfl) .c gO) ?_
  refine sJ rfl (R.indexRd Tryz.underlying40 sz_43 (.s rfl) (wK M1) (.s rfl) (fun hg => (by ((simp [-List.length_eq_zero_iff] at hg; omega))))) ?_
  refine sJ rfl (R.fieldRd fo_43_0 (.s rfl) (wK M1) (fun hg => (by ((simp [-List.length_eq_zero_iff] at hg; omega))))) ?_
  refine sJ rfl (R.loadRd Tryz.underlying3 rfl (.s rfl) (wK M1) (fun hg => by exact Ek.getN rfl (by ((simp [-List.length_eq_zero_iff] at hg; omega))))) ?_
  refine U ?_
  refine sJ rfl (R.indexRd Tryz.underlying40 sz_43 (.s rfl) (rK M0) (.s rfl) gO) ?_
  refine sJ rfl (R.fieldRd fo_43_0 (.s rfl) (rK M0) gO) ?_
  refine sJ rfl (R.loadRd Tryz.underlying3 rfl (.s rfl) (rK M0) (fun hg => by exact Ek.getN rfl (by omega))) ?_
  refine sJ rfl (R.gtr (.s rfl) (.s rfl)) ?_
  refine U ?_
  refine sJ rfl (R.subI (.s rfl) .c gO) ?_
  refine sJ rfl (R.indexRd Tryz.underlying40 sz_43 (.s rfl) (wK M1) (.s rfl) (fun hg => (by ((simp [-List.length_eq_zero_iff] at hg; omega))))) ?_
  refine sJ rfl (R.fieldRd fo_43_0 (.s rfl) (wK M1) (fun hg => (by ((simp [-List.length_eq_zero_iff] at hg; omega))))) ?_
  refine sJ rfl (R.loadRd Tryz.underlying3 rfl (.s rfl) (wK M1) (fun hg => by exact Ek.getN rfl (by ((simp [-List.length_eq_zero_iff] at hg; omega))))) ?_
  refine U ?_
  refine sJ rfl (R.indexRd Tryz.underlying40 sz_43 (.s rfl) (rK M0) (.s rfl) gO) ?_
  refine sJ rfl (R.fieldRd fo_43_0 (.s rfl) (rK M0) gO) ?_
  refine sJ rfl (R.loadRd Tryz.underlying3 rfl (.s rfl) (rK M0) (fun hg => by exact Ek.getN rfl (by omega))) ?_
  refine sJ rfl (R.eql (.s rfl) (.s rfl)) ?_
  refine U ?_
  refine sJ rfl (R.subI (.s rfl) .c gO) ?_
  refine sJ rfl (R.indexRd Tryz.underlying40 sz_43 (.s rfl) (wK M1) (.s rfl) (fun hg => (by ((simp [-List.length_eq_zero_iff] at hg; omega))))) ?_
  refine sJ rfl (R.fieldRd fo_43_1 (.s rfl) (wK M1) (fun hg => (by ((simp [-List.length_eq_zero_iff] at hg; omega))))) ?_
  refine sJ rfl (R.loadRd Tryz.underlying3 rfl (.s rfl) (wK M1) (fun hg => by exact Ek.getN rfl (by ((simp [-List.length_eq_zero_iff] at hg; omega))))) ?_
  refine U ?_
  refine sJ rfl (R.indexRd Tryz.underlying40 sz_43 (.s rfl) (rK M0) (.s rfl) gO) ?_
  refine sJ rfl (R.fieldRd fo_43_1 (.s rfl) (rK M0) gO) ?_
  refine sJ rfl (R.loadRd Tryz.underlying3 rfl (.s rfl) (rK M0) (fun hg => by exact Ek.getN rfl (by omega))) ?_
  refine sJ rfl (R.gtr (.s rfl) (.s rfl)) ?_
  refine sJ rfl (R.pickAnd (.s rfl) rfl (by (intro hg h; rw [hg, h]; rfl))) ?_
  refine sJ rfl (R.pickOr (.s rfl) rfl (by (intro hg h; rw [hg, h]; rfl))) ?_
  refine sJ rfl (R.pickAnd (.t rfl) rfl (by (intro hg h; rw [h]; rfl))) ?_
  refine U ?_
  refine At.cond (.t rfl) (fun c2 => ?_) (fun c2 => ?_)
  ·
   refine W ?_
   have c3 := c2; have hk0 : 0 < k := by simp at c3; omega
   refine W ?_
   exact At.again1 (k - 1) ⟨by omega, hk2.trans (posF_down hk0 hk1 (by simpa [hk0] using c2))⟩ (by omega) (.cons rfl (.cons rfl (.cons rfl (.cons (congrArg (fun z => some (true, Value.int .i64 z)) (by omega)) .nil)))) (List.Sublist.refl _) rfl
  ·
   refine W ?_
   refine At.draw2 [tt 0, tt 1, tt 2, tt 4, tt 5, tt 6, tt 7, tt 10, tt 11, tt 12] 3 8 [ff 8, ff 9, ff 13, tt 14] [ff 3, ff 9, ff 13, tt 14] (by kernel_rfl) (by kernel_rfl) ?_
   refine W ?_
   refine sJ rfl (R.sliceRd Tryz.underlying40 sz_43 (.t rfl) (wK M1) rfl (.t rfl) gO) ?_
   refine W ?_
   refine sJ rfl (R.loadRdAgg (us := iK.enc _) Tryz.underlying43 rfl sz_43 (.t rfl) (rK M0) gO (fun hg => by exact Ek.getA (by omega))) ?_
   refine W ?_
   refine sJ rfl (R.sliceRd Tryz.underlying40 sz_43 (.t rfl) (wK M1) (.t rfl) rfl gO) ?_
   refine W ?_
   refine At.join2 (β := Value) (fun x => [(0, true, u), (3, true, x), (4, true, .int .i64 i)]) (fun x => [rowE iK 43 x (insF out (gE l i))]) (fun x => ?_) (fun hj => ?_) (fun hj => ?_)
   ·
    have hx := True.intro
    refine W ?_
    exact At.again3 (i + 1) (insF out (gE l i)) (x) ⟨by omega, by rw [hi2, sortF_step (by omega)], by rw [insF_length, hi3]⟩ (by omega) (.cons rfl (.cons rfl (.cons rfl .nil))) (List.Sublist.refl _) rfl
   ·
    (refine At.nilRow iK 43 ?_; refine At.app (k := iK) rfl rfl rfl Tryz.underlying40 et_43 .c (.t rfl) (fun _ => by (exact U0)) (RdIn.cutE (k := iK) (wS M2) _ _ (by omega) (by omega)) (by (simp <;> omega)) (fun v1 => ⟨kz, ?_⟩))
    refine At.lit (k := iK) rfl rfl rfl Tryz.underlying40 et_43 (.k rfl .nil) (.cons rfl .nil) rfl rfl rfl (fun v2 => ⟨kz, ?_⟩)
    refine At.app (k := iK) rfl rfl rfl Tryz.underlying40 et_43 (.t rfl) (.t rfl) (fun _ => by (exact U1)) (wS M1) (by (simp <;> omega)) (fun v3 => ⟨kz, ?_⟩)
    refine At.app (k := iK) rfl rfl rfl Tryz.underlying40 et_43 (.t rfl) (.t rfl) (fun _ => by (exact U1)) (RdIn.cutE (k := iK) (wS M3) _ _ (by omega) (by omega)) (by (simp <;> omega)) (fun v4 => ⟨kz, ?_⟩)
    refine sC rfl kz (R.assign (.t rfl)) ?_
    refine At.nil ?_
    refine At.reRow (v := v4) (xs' := insF out (gE l i)) (U1) (insF_of hk1 (hk2.trans (posF_stop (by simpa [gtI] using c2)))) ?_
    exact hj v4 _ _ (Sub.look (.cons rfl (.cons rfl (.cons rfl .nil)))) (by (apply List.Sublist.cons; apply List.Sublist.cons_cons; exact List.nil_sublist _))
   ·
    refine At.lit (k := iK) rfl rfl rfl Tryz.underlying40 et_43 (.k rfl .nil) (.cons rfl .nil) rfl rfl rfl (fun v5 => ⟨kz, ?_⟩)
    (refine At.nilRow iK 43 ?_; refine At.app (k := iK) rfl rfl rfl Tryz.underlying40 et_43 .c (.t rfl) (fun _ => by (exact U0)) (RdIn.cutE (k := iK) (wS M3) _ _ (by omega) (by omega)) (by (simp <;> omega)) (fun v6 => ⟨kz, ?_⟩))
    refine At.app (k := iK) rfl rfl rfl Tryz.underlying40 et_43 (.t rfl) (.t rfl) (fun _ => by (exact U0)) (wS M2) (by (simp <;> omega)) (fun v7 => ⟨kz, ?_⟩)
    refine At.app (k := iK) rfl rfl rfl Tryz.underlying40 et_43 (.t rfl) (.t rfl) (fun _ => by (exact U0)) (RdIn.cutE (k := iK) (wS M3) _ _ (by omega) (by omega)) (by (simp <;> omega)) (fun v8 => ⟨kz, ?_⟩)
    refine sC rfl kz (R.assign (.t rfl)) ?_
    refine At.nil ?_
    refine At.reRow (v := v8) (xs' := insF out (gE l i)) (U0) (insF_of hk1 (hk2.trans (posF_stop (by simpa [gtI] using c2)))) ?_
    exact hj v8 _ _ (Sub.look (.cons rfl (.cons rfl (.cons rfl .nil)))) (by (apply List.Sublist.cons_cons; exact List.nil_sublist _))
 ·
  refine W ?_
  exact At.final (N' := [rowE iK 43 v out]) rfl (.t rfl) (List.Sublist.refl _) (⟨by rw [hi2, List.take_of_length_le (by omega)], rfl⟩)
theorem c_rLatest {u : Value} {l : List Itm} {key ver : Int} : Fn Tryz.prog 21 [u, .int .i64 key, .int .i64 ver] [rdE iK u l] [] (IsV (latV l key ver)) := by
 refine Fn.enter Tryz.func21 (by kernel_rfl) rfl (n := 57) rfl rfl (fun w => ?_)
 refine At.len (v := u) (rS M0) (fun hl1 => ?_)
 refine W ?_
 refine At.alloc rfl rfl rfl ze_43 (fun b1 hb1 => ⟨.all, ?_⟩)
 refine W ?_
 refine At.loop2 (fun (i : Nat) (b : Int) => i ≤ l.length ∧ ((b = -1 ∧ latF (l.take i) key ver = none) ∨ (0 ≤ b ∧ b < i ∧ latF (l.take i) key ver = some (gE l b)))) (fun (i : Nat) (b : Int) => l.length - i) (fun (i : Nat) (b : Int) => [(0, true, u), (1, true, .int .i64 key), (2, true, .int .i64 ver), (6, true, .pointer (some ⟨b1, 0, none⟩)), (8, true, .int .i64 b), (9, true, .int .i64 i)]) (fun (i : Nat) (b : Int) => [.blk b1 (.cells #[.int .i64 0, .int .i64 0, .int .i64 0] 43)]) (fun (i : Nat) (b : Int) => []) (0) (-1) ⟨Nat.zero_le _, .inl ⟨rfl, rfl⟩⟩ (.cons rfl (.cons rfl (.cons rfl (.cons rfl (.cons rfl (.cons rfl .nil)))))) (List.Sublist.refl _) rfl (fun i b hi => ?_)
 obtain ⟨hi1, hi2⟩ := hi
 refine Z ?_
 refine At.condD (.t rfl) (fun c1 => ?_) (fun c1 => ?_)
 ·
  refine W ?_
  refine At.drawK [tt 0, tt 1, tt 2, tt 3, tt 4, tt 5, tt 6, tt 7, tt 8, tt 9, tt 10, tt 11, tt 12, tt 13, tt 14, tt 15, tt 16, tt 17, tt 18, tt 19, tt 20, tt 21, tt 22, tt 23, tt 24, tt 25, tt 26, tt 27, tt 28, tt 29, tt 30, tt 31, tt 32] (by kernel_rfl) (by kernel_rfl) ?_
  refine U ?_
  refine sJ rfl (R.indexRd Tryz.underlying40 sz_43 (.t rfl) (rK M0) (.t rfl) gO) ?_
  refine sJ rfl (R.fieldRd fo_43_0 (.t rfl) (rK M0) gO) ?_
  refine sJ rfl (R.loadRd Tryz.underlying3 rfl (.t rfl) (rK M0) (fun hg => by exact Ek.getN rfl (by omega))) ?_
  refine U ?_
  refine sJ rfl (R.eql (.t rfl) (.t rfl)) ?_
  refine U ?_
  refine sJ rfl (R.indexRd Tryz.underlying40 sz_43 (.s rfl) (rK M0) (.s rfl) gO) ?_
  refine sJ rfl (R.fieldRd fo_43_1 (.s rfl) (rK M0) gO) ?_
  refine sJ rfl (R.loadRd Tryz.underlying3 rfl (.s rfl) (rK M0) (fun hg => by exact Ek.getN rfl (by omega))) ?_
  refine U ?_
  refine sJ rfl (R.leq (.s rfl) (.s rfl)) ?_
  refine sJ rfl (R.pickAnd (.t rfl) rfl (by (intro hg h; rw [h]; rfl))) ?_
  refine U ?_
  refine sJ rfl (R.lss (.s rfl) .c) ?_
  refine U ?_
  refine sJ rfl (R.indexRd Tryz.underlying40 sz_43 (.s rfl) (rK M0) (.s rfl) gO) ?_
  refine sJ rfl (R.fieldRd fo_43_1 (.s rfl) (rK M0) gO) ?_
  refine sJ rfl (R.loadRd Tryz.underlying3 rfl (.s rfl) (rK M0) (fun hg => by exact Ek.getN rfl (by omega))) ?_
  refine U ?_
  refine sJ rfl (R.indexRd Tryz.underlying40 sz_43 (.s rfl) (rK M0) (.s rfl) (fun hg => (by ((simp [-List.length_eq_zero_iff] at hg; omega))))) ?_
  refine sJ rfl (R.fieldRd fo_43_1 (.s rfl) (rK M0) gO) ?_
  refine sJ rfl (R.loadRd Tryz.underlying3 rfl (.s rfl) (rK M0) (fun hg => by exact Ek.getN rfl (by ((simp [-List.length_eq_zero_iff] at hg; omega))))) ?_
  refine sJ rfl (R.geq (.s rfl) (.s rfl)) ?_
  refine sJ rfl (R.pickOr (.s rfl) rfl (by (intro hg h; rw [hg, h]; rfl))) ?_
  refine sJ rfl (R.pickAnd (.t rfl) rfl (by (intro hg h; rw [h]; rfl))) ?_
  refine U ?_
  refine At.cond (.t rfl) (fun c2 => ?_) (fun c2 => ?_)
  ·
   refine W ?_
   exact At.again2 (i + 1) (i) ⟨by omega, .inr ⟨by omega, by omega, latF_yes (by omega) hi2 (by simpa using c2)⟩⟩ (by omega) (.cons rfl (.cons rfl (.cons rfl (.cons rfl (.cons rfl (.cons rfl .nil)))))) (List.Sublist.refl _) rfl
  ·
   refine W ?_
   exact At.again2 (i + 1) (b) ⟨by omega, latF_no (by omega) hi2 (by simpa using c2)⟩ (by omega) (.cons rfl (.cons rfl (.cons rfl (.cons rfl (.cons rfl (.cons rfl .nil)))))) (List.Sublist.refl _) rfl
 ·
  have hfull : l.take i = l := List.take_of_length_le (by omega)
  refine Z ?_
  refine At.condD (.t rfl) (fun c3 => ?_) (fun c3 => ?_)
  ·
   have hb2 : latF l key ver = none := (by (rcases hi2 with ⟨_, h⟩ | ⟨h, _, _⟩); (rw [hfull] at h; exact h); omega)
   refine W ?_
   refine eA rfl (R.build bt_43 .nil .nil rfl) ?_
   refine At.stN rfl rfl sz_43 (.t rfl) (.t rfl) rfl rfl rfl (.n U0) ⟨.all, ?_⟩
   refine W ?_
   exact At.final2 rfl (.a (vs := [_, _, _]) Tryz.underlying43 rfl sz_43 rfl (csS M1 ⟨rfl, rfl, rfl, trivial⟩)) (.t rfl) (List.nil_sublist _) (⟨latV_of (hb2), rfl, rfl⟩)
  ·
   have hb4 : 0 ≤ b ∧ b < l.length ∧ latF l key ver = some (gE l b) := (by (rcases hi2 with ⟨h, _⟩ | ⟨h1, h2, h3⟩); omega; exact ⟨h1, by omega, by rw [hfull] at h3; exact h3⟩); obtain ⟨hb5, hb6, hb3⟩ := hb4
   refine W ?_
   refine eA rfl (R.loadRdAgg (us := iK.enc _) Tryz.underlying43 rfl sz_43 (.t rfl) (rS M0) gO (fun hg => by exact Ek.getA (by omega))) ?_
   refine At.stN rfl rfl sz_43 (.t rfl) (.t rfl) rfl rfl rfl (.n U0) ⟨.all, ?_⟩
   refine W ?_
   exact At.final2 rfl (.a (vs := [_, _, _]) Tryz.underlying43 rfl sz_43 rfl (csS M1 ⟨rfl, rfl, rfl, trivial⟩)) (.t rfl) (List.nil_sublist _) (⟨latV_of (hb3), rfl, rfl⟩)
theorem c_rKeys {u : Value} {l : List Itm} (hL : l.length ≤ 1000) : Fn Tryz.prog 20 [u] [rdE iK u l] [] (IsR zK 3 (keysF (sortF l))) := by
 refine Fn.enter Tryz.func20 (by kernel_rfl) rfl (n := 40) rfl rfl (fun w => ?_)
 refine At.len (v := u) (rS M0) (fun hl1 => ?_)
 refine W ?_
 refine At.callRF rfl rfl rfl (.k rfl .nil) (by (exact .cons (rS M0) .nil)) (c_rSort (by omega)) (fun v1 => ⟨.all, ?_⟩)
 refine W ?_
 refine At.nilRow zK 3 ?_
 refine At.loop3 (fun (i : Nat) (out : List Int) (v : Value) => i ≤ (sortF l).length ∧ out = keysF ((sortF l).take i) ∧ out.length ≤ i) (fun (i : Nat) (out : List Int) (v : Value) => (sortF l).length - i) (fun (i : Nat) (out : List Int) (v : Value) => [(3, true, v1), (4, true, v), (5, true, .int .i64 i)]) (fun (i : Nat) (out : List Int) (v : Value) => [rowE zK 3 v out, rowE iK 43 v1 (sortF l)]) (fun (i : Nat) (out : List Int) (v : Value) => []) (0) ([]) (.slice none 0 0) ⟨Nat.zero_le _, by simp [keysF], Nat.le_refl _⟩ (.cons rfl (.cons rfl (.cons rfl .nil))) (List.Sublist.refl _) rfl (fun i out v hi => ?_)
 obtain ⟨hi1, hi2, hi3⟩ := hi; have hs := sortF_length l
 refine Z ?_
 refine At.condD (.t rfl) (fun c1 => ?_) (fun c1 => ?_)
 ·
  refine W ?_
  refine At.drawK [tt 0, tt 1, tt 2, tt 3, tt 4, tt 5, tt 6, tt 7, tt 8, tt 9, tt 10, tt 11, tt 12, tt 13, tt 14, tt 15, tt 16] (by kernel_rfl) (by kernel_rfl) ?_
  refine U ?_
  refine sJ rfl (R.lenRd Tryz.underlying25 (.t rfl) (wK M1)) ?_
  refine sJ rfl (R.eql (.t rfl) .c) ?_
  refine U ?_
  refine sJ rfl (R.lenRd Tryz.underlying25 (.s rfl) (wK M1)) ?_
  refine sJ rfl (R.subI (.s rfl) .c gO) ?_
  refine sJ rfl (R.indexRd Tryz.underlying25 sz_3 (.s rfl) (wK M1) (.s rfl) (fun hg => (by ((simp [-List.length_eq_zero_iff] at hg; omega))))) ?_
  refine sJ rfl (R.loadRd Tryz.underlying3 rfl (.s rfl) (wK M1) (fun hg => by exact Ek.get0 rfl (by ((simp [-List.length_eq_zero_iff] at hg; omega))))) ?_
  refine U ?_
  refine sJ rfl (R.indexRd Tryz.underlying40 sz_43 (.s rfl) (wK M2) (.s rfl) gO) ?_
  refine sJ rfl (R.fieldRd fo_43_0 (.s rfl) (wK M2) gO) ?_
  refine sJ rfl (R.loadRd Tryz.underlying3 rfl (.s rfl) (wK M2) (fun hg => by exact Ek.getN rfl (by omega))) ?_
  refine sJ rfl (R.neq (.s rfl) (.s rfl)) ?_
  refine sJ rfl (R.pickOr (.t rfl) rfl (by (intro hg h; rw [h]; rfl))) ?_
  refine U ?_
  refine At.cond (.t rfl) (fun c2 => ?_) (fun c2 => ?_)
  ·
   refine W ?_
   refine At.lit (k := zK) rfl rfl rfl Tryz.underlying25 et_3 (.k rfl .nil) (.cons rfl .nil) rfl rfl rfl (fun v2 => ⟨.all, ?_⟩)
   refine At.app (k := zK) rfl rfl rfl Tryz.underlying25 et_3 (.t rfl) (.t rfl) (fun _ => by (exact U1)) (wS M1) (by (simp <;> omega)) (fun v3 => ⟨.all, ?_⟩)
   refine W ?_
   exact At.again3 (i + 1) (out ++ [(gE (sortF l) i).key]) (v3) ⟨by omega, by rw [keysF_step (by omega), ← hi2, keysS_yes (by simpa using c2)], by simp; omega⟩ (by omega) (.cons rfl (.cons rfl (.cons rfl .nil))) sl rfl
  ·
   refine W ?_
   exact At.again3 (i + 1) (out) (v) ⟨by omega, by rw [keysF_step (by omega), ← hi2, keysS_no (by simpa using c2)], by omega⟩ (by omega) (.cons rfl (.cons rfl (.cons rfl .nil))) (List.Sublist.refl _) rfl
 ·
  refine W ?_
  exact At.final (N' := [rowE zK 3 v out]) rfl (.t rfl) sl (⟨by rw [hi2, List.take_of_length_le (by omega)], rfl⟩)
end Go.Proofs.YtbolanigdkgbdaaGreat
namespace Go.Proofs.YtbolanigdkgbdaaGreat
open Go Go.RowKit
set_option maxRecDepth 10000
set_option linter.unusedVariables false
def lastB (s : List Itm) (i : Nat) : Bool := decide ((i : Int) + 1 = (s.length : Int)) || !decide ((gE s ((i : Int) + 1)).key = (gE s (i : Int)).key)
theorem lastB_lt {s : List Itm} {i : Nat} (hi : i < s.length) (h : lastB s i = false) : i + 1 < s.length := by
  simp only [lastB, Bool.or_eq_false_iff, decide_eq_false_iff_not] at h
  omega
def keepB (s : List Itm) (vs : List Int) (i : Nat) : Bool := vs.foldl (fun b v => b || (decide ((gE s (i : Int)).ver ≤ v) && (lastB s i || decide (v < (gE s ((i : Int) + 1)).ver)))) (lastB s i)
theorem keepB_step {s : List Itm} {vs : List Int} {i k : Nat} {b : Bool} (hk : k < vs.length) (h : b = keepB s (vs.take k) i) :
    (b || (decide ((gE s (i : Int)).ver ≤ gE vs (k : Int)) && (lastB s i || decide (gE vs (k : Int) < (gE s ((i : Int) + 1)).ver)))) = keepB s (vs.take (k + 1)) i := by
  have e : vs.take (k + 1) = vs.take k ++ [gE vs (k : Int)] := by rw [List.take_succ_eq_append_getElem hk]; simp [gE, hk]
  rw [e, h]; unfold keepB; rw [List.foldl_append]; rfl
def keepF (s : List Itm) (vs : List Int) : Nat → List Itm
  | 0 => []
  | i + 1 => if keepB s vs i then keepF s vs i ++ [gE s (i : Int)] else keepF s vs i
theorem keepF_yes {s : List Itm} {vs : List Int} {i : Nat} (h : keepB s vs i = true) : keepF s vs (i + 1) = keepF s vs i ++ [gE s (i : Int)] := by rw [keepF, if_pos h]
theorem keepF_no {s : List Itm} {vs : List Int} {i : Nat} (h : keepB s vs i = false) : keepF s vs (i + 1) = keepF s vs i := by rw [keepF, if_neg (by rw [h]; simp)]
theorem c_rKeep {u vv : Value} {l : List Itm} {vs : List Int} (hL : l.length ≤ 1000) : Fn Tryz.prog 182 [u, vv] [rdE iK u l, rdE zK vv vs] [] (IsR iK 43 (keepF (sortF l) vs (sortF l).length)) := by
 refine Fn.enter Tryz.func182 (by kernel_rfl) rfl (n := 83) rfl rfl (fun w => ?_)
 refine At.len (v := u) (rS M0) (fun hl1 => ?_)
 refine At.len (v := vv) (rS M1) (fun hl2 => ?_)
 have hs := sortF_length l
 refine W ?_
 refine At.callRF rfl rfl rfl (.k rfl .nil) (by (exact .cons (rS M0) .nil)) (c_rSort (by omega)) (fun v1 => ⟨.all, ?_⟩)
 refine W ?_
 refine At.nilRow iK 43 ?_
 refine At.loop3 (fun (i : Nat) (out : List Itm) (v : Value) => i ≤ (sortF l).length ∧ out = keepF (sortF l) vs i ∧ out.length ≤ i) (fun (i : Nat) (out : List Itm) (v : Value) => (sortF l).length - i) (fun (i : Nat) (out : List Itm) (v : Value) => [(0, true, u), (1, true, vv), (5, true, v1), (6, true, v), (7, true, .int .i64 i)]) (fun (i : Nat) (out : List Itm) (v : Value) => [rowE iK 43 v out, rowE iK 43 v1 (sortF l)]) (fun (i : Nat) (out : List Itm) (v : Value) => []) (0) ([]) (.slice none 0 0) ⟨Nat.zero_le _, rfl, Nat.le_refl _⟩ (.cons rfl (.cons rfl (.cons rfl (.cons rfl (.cons rfl .nil))))) (List.Sublist.refl _) rfl (fun i out v hi => ?_)
 obtain ⟨hi1, hi2, hi3⟩ := hi
 refine Z ?_
 refine At.condD (.t rfl) (fun c1 => ?_) (fun c1 => ?_)
 ·
  refine W ?_
  refine At.drawK [tt 0, tt 1, tt 2, tt 3, tt 4, tt 5, tt 6, tt 7, tt 8, tt 9, tt 10, tt 11, tt 12, tt 13, tt 14, tt 15, tt 16, tt 17, tt 18, tt 19] (by kernel_rfl) (by kernel_rfl) ?_
  refine U ?_
  refine sJ rfl (R.addI (.t rfl) .c gO) ?_
  refine U ?_
  refine sJ rfl (R.lenRd Tryz.underlying40 (.t rfl) (wK M3)) ?_
  refine sJ rfl (R.eql (.t rfl) (.t rfl)) ?_
  refine U ?_
  refine sJ rfl (R.addI (.s rfl) .c gO) ?_
  refine sJ rfl (R.indexRd Tryz.underlying40 sz_43 (.s rfl) (wK M3) (.s rfl) (fun hg => (by ((simp [-List.length_eq_zero_iff] at hg; omega))))) ?_
  refine sJ rfl (R.fieldRd fo_43_0 (.s rfl) (wK M3) gO) ?_
  refine sJ rfl (R.loadRd Tryz.underlying3 rfl (.s rfl) (wK M3) (fun hg => by exact Ek.getN rfl (by ((simp [-List.length_eq_zero_iff] at hg; omega))))) ?_
  refine U ?_
  refine sJ rfl (R.indexRd Tryz.underlying40 sz_43 (.s rfl) (wK M3) (.s rfl) gO) ?_
  refine sJ rfl (R.fieldRd fo_43_0 (.s rfl) (wK M3) gO) ?_
  refine sJ rfl (R.loadRd Tryz.underlying3 rfl (.s rfl) (wK M3) (fun hg => by exact Ek.getN rfl (by omega))) ?_
  refine sJ rfl (R.neq (.s rfl) (.s rfl)) ?_
  refine sJ rfl (R.pickOr (.t rfl) rfl (by (intro hg h; rw [h]; rfl))) ?_
  refine U ?_
  have hlast := lastB_lt (s := sortF l) (i := i) (by omega)
  refine At.loop2 (fun (k : Nat) (b : Bool) => k ≤ vs.length ∧ b = keepB (sortF l) (vs.take k) i) (fun (k : Nat) (b : Bool) => vs.length - k) (fun (k : Nat) (b : Bool) => [(0, true, u), (1, true, vv), (5, true, v1), (6, true, v), (7, true, .int .i64 i), (8, true, .bool (lastB (sortF l) i)), (9, true, .bool b), (10, true, .int .i64 k)]) (fun (k : Nat) (b : Bool) => [rowE iK 43 v out, rowE iK 43 v1 (sortF l)]) (fun (k : Nat) (b : Bool) => []) (0) (lastB (sortF l) i) ⟨Nat.zero_le _, rfl⟩ (.cons rfl (.cons rfl (.cons rfl (.cons rfl (.cons rfl (.cons rfl (.cons rfl (.cons rfl .nil)))))))) (by (exact List.Sublist.refl _)) rfl (fun k b hi => ?_)
  obtain ⟨hk1, hk2⟩ := hi
  refine Z ?_
  refine At.condD (.t rfl) (fun c2 => ?_) (fun c2 => ?_)
  ·
   refine W ?_
   refine At.drawK [tt 0, tt 1, tt 2, tt 3, tt 4, tt 5, tt 6, tt 7, tt 8, tt 9, tt 10, tt 11, tt 12, tt 13, tt 14, tt 15, tt 16, tt 17, tt 18, tt 19, tt 20, tt 21, tt 22, tt 23, tt 24, tt 25, tt 26, tt 27, tt 28, tt 29] (by kernel_rfl) (by kernel_rfl) ?_
   refine U ?_
   refine sJ rfl (R.indexRd Tryz.underlying40 sz_43 (.s rfl) (wK M3) (.s rfl) gO) ?_
   refine sJ rfl (R.fieldRd fo_43_1 (.s rfl) (wK M3) gO) ?_
   refine sJ rfl (R.loadRd Tryz.underlying3 rfl (.s rfl) (wK M3) (fun hg => by exact Ek.getN rfl (by omega))) ?_
   refine U ?_
   refine sJ rfl (R.indexRd Tryz.underlying25 sz_3 (.s rfl) (rK M1) (.s rfl) gO) ?_
   refine sJ rfl (R.loadRd Tryz.underlying3 rfl (.s rfl) (rK M1) (fun hg => by exact Ek.get0 rfl (by omega))) ?_
   refine sJ rfl (R.leq (.s rfl) (.s rfl)) ?_
   refine U ?_
   refine sJ rfl (R.addI (.s rfl) .c gO) ?_
   refine sJ rfl (R.indexRd Tryz.underlying40 sz_43 (.s rfl) (wK M3) (.s rfl) (fun hg => (by (have h0 := hlast (by revert hg; cases lastB (sortF l) i <;> simp); omega)))) ?_
   refine sJ rfl (R.fieldRd fo_43_1 (.s rfl) (wK M3) gO) ?_
   refine sJ rfl (R.loadRd Tryz.underlying3 rfl (.s rfl) (wK M3) (fun hg => by exact Ek.getN rfl (by (have h0 := hlast (by revert hg; cases lastB (sortF l) i <;> simp); omega)))) ?_
   refine U ?_
   refine sJ rfl (R.indexRd Tryz.underlying25 sz_3 (.s rfl) (rK M1) (.s rfl) gO) ?_
   refine sJ rfl (R.loadRd Tryz.underlying3 rfl (.s rfl) (rK M1) (fun hg => by exact Ek.get0 rfl (by omega))) ?_
   refine sJ rfl (R.gtr (.s rfl) (.s rfl)) ?_
   refine sJ rfl (R.pickOr (.s rfl) rfl (by (intro hg h; rw [hg, h]; rfl))) ?_
   refine sJ rfl (R.pickAnd (.s rfl) rfl (by (intro hg h; rw [hg, h]; rfl))) ?_
   refine sJ rfl (R.pickOr (.t rfl) rfl (by (intro hg h; rw [h]; rfl))) ?_
   refine U ?_
   refine eA rfl (R.addI (.t rfl) .c gO) ?_
   refine U ?_
   exact At.again2 (k + 1) ((b || (decide ((gE (sortF l) i).ver ≤ gE vs k) && (lastB (sortF l) i || decide (gE vs k < (gE (sortF l) ((i : Int) + 1)).ver))))) ⟨by omega, keepB_step (by omega) hk2⟩ (by omega) (.cons rfl (.cons rfl (.cons rfl (.cons rfl (.cons rfl (.cons rfl (.cons rfl (.cons rfl .nil)))))))) (List.Sublist.refl _) rfl
  ·
   have hbv : b = keepB (sortF l) vs i := (by rw [hk2, List.take_of_length_le (by omega)])
   refine W ?_
   refine At.cond (.t rfl) (fun c3 => ?_) (fun c3 => ?_)
   ·
    refine W ?_
    refine eA rfl (R.loadRdAgg (us := iK.enc _) Tryz.underlying43 rfl sz_43 (.t rfl) (wS M3) gO (fun hg => by exact Ek.getA (by omega))) ?_
    refine At.lit (k := iK) rfl rfl rfl Tryz.underlying40 et_43 (.k rfl .nil) (.cons rfl .nil) rfl rfl rfl (fun v2 => ⟨.all, ?_⟩)
    refine At.app (k := iK) rfl rfl rfl Tryz.underlying40 et_43 (.t rfl) (.t rfl) (fun _ => by (exact U1)) (wS M2) (by (simp <;> omega)) (fun v3 => ⟨.all, ?_⟩)
    refine W ?_
    exact At.again3 (i + 1) (out ++ [gE (sortF l) i]) (v3) ⟨by omega, by rw [keepF_yes (hbv.symm.trans c3), hi2], by simp; omega⟩ (by omega) (.cons rfl (.cons rfl (.cons rfl (.cons rfl (.cons rfl .nil))))) sl rfl
   ·
    refine W ?_
    exact At.again3 (i + 1) (out) (v) ⟨by omega, by rw [keepF_no (hbv.symm.trans c3), hi2], by omega⟩ (by omega) (.cons rfl (.cons rfl (.cons rfl (.cons rfl (.cons rfl .nil))))) (List.Sublist.refl _) rfl
 ·
  refine W ?_
  exact At.final (N' := [rowE iK 43 v out]) rfl (.t rfl) sl (⟨by rw [show i = (sortF l).length from by omega] at hi2; rw [hi2], rfl⟩)
end Go.Proofs.YtbolanigdkgbdaaGreat
namespace Go.Proofs.YtbolanigdkgbdaaGreat
open Go Go.RowKit
set_option linter.unusedVariables false
def gN (l : List Itm) (i : Nat) : Itm := l.getD i default
theorem gE_nat (l : List Itm) (i : Nat) : gE l (i : Int) = gN l i := rfl
theorem gN_getElem {l : List Itm} {i : Nat} (h : i < l.length) : gN l i = l[i] := by simp [gN, h]
theorem take_snoc {α : Type} [Inhabited α] {l : List α} {i : Nat} (h : i < l.length) : l.take (i + 1) = l.take i ++ [gE l (i : Int)] := by
  rw [List.take_succ_eq_append_getElem h]; simp [gE, h]
def lastG (G : List (List Itm)) : List Itm := G.getD (G.length - 1) []
def openG (h : Int) (G : List (List Itm)) (n : Nat) : List (List Itm) := if 0 < (lastG G).length ∧ h < ((lastG G).length : Int) + n then G ++ [[]] else G
def putG (G : List (List Itm)) (own : List Itm) : List (List Itm) := G.set (G.length - 1) (lastG G ++ own)
def grpS (h : Int) (G : List (List Itm)) (own : List Itm) : List (List Itm) := putG (openG h G own.length) own
theorem openG_pos {h : Int} {G : List (List Itm)} {n : Nat} (h0 : 0 < G.length) : 0 < (openG h G n).length := by
  unfold openG
  split
  · simp
  · exact h0
theorem openG_len {h : Int} {G : List (List Itm)} {n : Nat} : (openG h G n).length ≤ G.length + 1 ∧ G.length ≤ (openG h G n).length := by unfold openG; split <;> simp
theorem putG_len {G : List (List Itm)} {own : List Itm} : (putG G own).length = G.length := by simp [putG]
theorem grpS_pos {h : Int} {G : List (List Itm)} {own : List Itm} (h0 : 0 < G.length) : 0 < (grpS h G own).length := by unfold grpS; rw [putG_len]; exact openG_pos h0
theorem grpS_len {h : Int} {G : List (List Itm)} {own : List Itm} : (grpS h G own).length ≤ G.length + 1 ∧ G.length ≤ (grpS h G own).length := by unfold grpS; rw [putG_len]; exact openG_len
def runs : List Itm → List (List Itm)
  | [] => []
  | x :: l => (x :: l.takeWhile fun y => decide (y.key = x.key)) :: runs (l.dropWhile fun y => decide (y.key = x.key))
termination_by l => l.length
decreasing_by
  have := (List.dropWhile_sublist (fun y : Itm => decide (y.key = x.key)) (l := l)).length_le
  simp; omega
def splitR (h : Int) (G : List (List Itm)) (l : List Itm) : List (List Itm) := (runs l).foldl (grpS h) G
theorem splitR_nil (h : Int) (G : List (List Itm)) : splitR h G [] = G := by unfold splitR; rw [runs]; rfl
theorem tw_split {p : Itm → Bool} : ∀ {A B : List Itm}, (∀ y ∈ A, p y = true) → (∀ b B', B = b :: B' → p b = false) → (A ++ B).takeWhile p = A ∧ (A ++ B).dropWhile p = B
  | [], [], _, _ => ⟨rfl, rfl⟩
  | [], b :: B, _, h => by simp [h b B rfl]
  | a :: A, B, h1, h2 => by
    have ih := tw_split (A := A) (B := B) (fun y hy => h1 y (by simp [hy])) h2
    simp [h1 a (by simp), ih.1, ih.2]
theorem runs_step {l : List Itm} {i k : Nat} (hik : i < k) (hk : k ≤ l.length) (h1 : ∀ j : Nat, i ≤ j → j < k → (gE l (j : Int)).key = (gE l (i : Int)).key) (h2 : k < l.length → (gE l (k : Int)).key ≠ (gE l (i : Int)).key) :
    runs (l.drop i) = (l.drop i).take (k - i) :: runs (l.drop k) := by
  have hi : i < l.length := by omega
  have e1 : l.drop i = gE l (i : Int) :: l.drop (i + 1) := by rw [List.drop_eq_getElem_cons hi]; simp [gE, hi]
  have e2 : l.drop (i + 1) = (l.drop (i + 1)).take (k - (i + 1)) ++ l.drop k := by
    conv => lhs; rw [← List.take_append_drop (k - (i + 1)) (l.drop (i + 1)), List.drop_drop, show i + 1 + (k - (i + 1)) = k by omega]
  have hk1 : (l.drop i).take (k - i) = gE l (i : Int) :: (l.drop (i + 1)).take (k - (i + 1)) := by
    rw [e1, show k - i = (k - (i + 1)) + 1 by omega, List.take_succ_cons]
  obtain ⟨t1, t2⟩ := tw_split (p := fun y => decide (y.key = (gE l (i : Int)).key)) (A := (l.drop (i + 1)).take (k - (i + 1))) (B := l.drop k) (fun y hy => by
    obtain ⟨j, hj, rfl⟩ := List.mem_iff_getElem.1 hy
    simp only [List.length_take, List.length_drop] at hj
    have := h1 (i + 1 + j) (by omega) (by omega)
    rw [gE_nat, gN_getElem (by omega)] at this
    simpa using this) (fun b B hb => by
    have hlt : k < l.length := by
      rcases Nat.lt_or_ge k l.length with h | h
      · exact h
      · rw [List.drop_eq_nil_of_le h] at hb; cases hb
    have := h2 hlt
    rw [List.drop_eq_getElem_cons hlt] at hb
    obtain ⟨rfl, _⟩ := List.cons.inj hb
    simpa [gE, hlt] using this)
  rw [← e2] at t1 t2
  rw [hk1, e1, runs, t1, t2]
theorem splitR_step {h : Int} {G : List (List Itm)} {l : List Itm} {i k : Nat} (hik : i < k) (hk : k ≤ l.length) (h1 : ∀ j : Nat, i ≤ j → j < k → (gE l (j : Int)).key = (gE l (i : Int)).key) (h2 : k < l.length → (gE l (k : Int)).key ≠ (gE l (i : Int)).key) :
    splitR h G (l.drop i) = splitR h (grpS h G ((l.drop i).take (k - i))) (l.drop k) := by
  unfold splitR; rw [runs_step hik hk h1 h2]; rfl
theorem lastG_eq {gs : List (SV × List Itm)} {m : Nat} (hm : gs.length = m + 1) : (gE gs (m : Int)).2 = lastG (gs.map (·.2)) := by
  unfold lastG gE
  rw [List.length_map, hm, List.getD_eq_getElem?_getD, List.getD_eq_getElem?_getD, List.getElem?_map, Int.toNat_natCast, Nat.add_sub_cancel]
  rw [List.getElem?_eq_getElem (by omega)]; rfl
theorem openG_yes {h : Int} {gs : List (SV × List Itm)} {k : Nat} {m : Nat} (hm : gs.length = m + 1) (hc : 0 < ((gE gs (m : Int)).2.length : Int) ∧ h < ((gE gs (m : Int)).2.length : Int) + k) :
    (gs ++ [((⟨.slice none 0 0, rfl⟩ : SV), ([] : List Itm))]).map (·.2) = openG h (gs.map (·.2)) k := by
  rw [lastG_eq hm] at hc
  unfold openG
  rw [if_pos ⟨by omega, hc.2⟩, List.map_append]; rfl
theorem openG_no {h : Int} {gs : List (SV × List Itm)} {k : Nat} {m : Nat} (hm : gs.length = m + 1) (hc : ¬ (0 < ((gE gs (m : Int)).2.length : Int) ∧ h < ((gE gs (m : Int)).2.length : Int) + k)) : gs.map (·.2) = openG h (gs.map (·.2)) k := by
  rw [lastG_eq hm] at hc
  unfold openG
  rw [if_neg fun h => hc ⟨by omega, h.2⟩]
theorem putG_eq {h : Int} {G : List (List Itm)} {gs : List (SV × List Itm)} {v : SV} {run : List Itm} {m : Nat} (hm : gs.length = m + 1) (hg : gs.map (·.2) = openG h G run.length) : (gs.set ((m : Int)).toNat (v, (gE gs (m : Int)).2 ++ run)).map (·.2) = grpS h G run := by
  unfold grpS putG
  rw [← hg, List.map_set, lastG_eq hm, List.length_map, hm, Int.toNat_natCast, Nat.add_sub_cancel]
theorem sizes_put {gs : List (SV × List Itm)} {v : SV} {run : List Itm} {i k m : Nat} (h : ∀ x ∈ gs, x.2.length ≤ i) (hm : m < gs.length) (hr : (gE gs (m : Int)).2.length + run.length ≤ k ∧ i ≤ k) : ∀ x ∈ gs.set ((m : Int)).toNat (v, (gE gs (m : Int)).2 ++ run), x.2.length ≤ k := fun x hx => by
  rcases List.mem_or_eq_of_mem_set hx with h1 | h1
  · have := h x h1; omega
  · subst h1; simp; omega
end Go.Proofs.YtbolanigdkgbdaaGreat
namespace Go.Proofs.YtbolanigdkgbdaaGreat
open Go Go.RowKit
set_option maxRecDepth 10000
set_option linter.unusedVariables false
theorem sz_40 : (Tryz.prog.info? 40).map (·.size) = some 1 := by kernel_rfl
def minF (least : Int) (gs : List (Value × List Itm)) (i : Nat) : Int := if i = 0 then least else if (gE gs (i : Int)).2.length = 0 then 0 else (gE (gE gs (i : Int)).2 0).key
def minsF (least : Int) (gs : List (Value × List Itm)) : Nat → List Int
  | 0 => []
  | i + 1 => minsF least gs i ++ [minF least gs i]
theorem minF_0 {least : Int} {gs : List (Value × List Itm)} {i : Nat} (h : i = 0) : least = minF least gs i := by rw [minF, if_pos h]
theorem minF_k {least : Int} {gs : List (Value × List Itm)} {i : Nat} (h : i ≠ 0) (h' : (gE gs (i : Int)).2.length ≠ 0) : (gE (gE gs (i : Int)).2 0).key = minF least gs i := by rw [minF, if_neg h, if_neg h']
theorem minF_n {least : Int} {gs : List (Value × List Itm)} {i : Nat} (h : i ≠ 0) (h' : (gE gs (i : Int)).2.length = 0) : (0 : Int) = minF least gs i := by rw [minF, if_neg h, if_pos h']
theorem c_rMins {V : Value} {gs : List (Value × List Itm)} {least : Int} (hL : gs.length ≤ 1000) : Fn Tryz.prog 183 [.int .i64 least, V] (nest iK V gs) [] (IsR zK 3 (minsF least gs gs.length)) := by
 refine Fn.enter Tryz.func183 (by kernel_rfl) rfl (n := 35) rfl rfl (fun w => ?_)
 have hG : ∀ x ∈ gs, rdE iK x.1 x.2 ∈ nest iK V gs := fun x hx => .tail _ (List.mem_map.2 ⟨x, hx, rfl⟩)
 refine W ?_
 refine At.nilRow zK 3 ?_
 refine At.loop3 (fun (i : Nat) (out : List Int) (v : Value) => i ≤ gs.length ∧ out = minsF least gs i ∧ out.length = i) (fun (i : Nat) (out : List Int) (v : Value) => gs.length - i) (fun (i : Nat) (out : List Int) (v : Value) => [(0, true, .int .i64 least), (1, true, V), (5, true, v), (6, true, .int .i64 i)]) (fun (i : Nat) (out : List Int) (v : Value) => [rowE zK 3 v out]) (fun (i : Nat) (out : List Int) (v : Value) => []) (0) ([]) (.slice none 0 0) ⟨Nat.zero_le _, rfl, rfl⟩ (.cons rfl (.cons rfl (.cons rfl (.cons rfl .nil)))) (List.Sublist.refl _) rfl (fun i out v hi => ?_)
 obtain ⟨hi1, hi2, hi3⟩ := hi
 refine Z ?_
 refine At.condD (.t rfl) (fun c1 => ?_) (fun c1 => ?_)
 ·
  refine Z ?_
  refine At.cut1 (fun (m : Int) => m = minF least gs i) (fun (m : Int) => [(0, true, .int .i64 least), (1, true, V), (5, true, v), (6, true, .int .i64 i), (7, true, .int .i64 m)]) (fun (m : Int) => [rowE zK 3 v out]) (fun (m : Int) => []) ?_ (fun m hi => ?_)
  ·
   refine At.condD (.t rfl) (fun c2 => ?_) (fun c2 => ?_)
   ·
    refine W ?_
    exact At.mid1 (least) (minF_0 (by omega)) (.cons rfl (.cons rfl (.cons rfl (.cons rfl (.cons rfl .nil))))) (List.Sublist.refl _) rfl
   ·
    refine U ?_
    refine eA rfl (R.indexRd Tryz.underlying202 sz_40 (.t rfl) (rS M0) (.t rfl) gO) ?_
    refine eA rfl (R.loadRd Tryz.underlying40 rfl (.t rfl) (rS M0) (fun hg => by exact nestGet (by omega))) ?_
    refine eA rfl (R.lenRd Tryz.underlying40 (.t rfl) (by exact nestS hG (by omega))) ?_
    refine eA rfl (R.gtr (.t rfl) .c) ?_
    refine U ?_
    refine At.condD (.t rfl) (fun c3 => ?_) (fun c3 => ?_)
    ·
     refine U ?_
     refine eA rfl (R.indexRd Tryz.underlying202 sz_40 (.t rfl) (rS M0) (.t rfl) gO) ?_
     refine eA rfl (R.loadRd Tryz.underlying40 rfl (.t rfl) (rS M0) (fun hg => by exact nestGet (by omega))) ?_
     refine eA rfl (R.indexRd Tryz.underlying40 sz_43 (.t rfl) (by exact nestS hG (by omega)) .c gO) ?_
     refine eA rfl (R.fieldRd fo_43_0 (.t rfl) (by exact nestS hG (by omega)) gO) ?_
     refine eA rfl (R.loadRd Tryz.underlying3 rfl (.t rfl) (by exact nestS hG (by omega)) (fun hg => by exact Ek.getN rfl (by omega))) ?_
     refine U ?_
     exact At.mid1 ((gE (gE gs i).2 0).key) (minF_k (by omega) (by omega)) (.cons rfl (.cons rfl (.cons rfl (.cons rfl (.cons rfl .nil))))) (List.Sublist.refl _) rfl
    ·
     refine W ?_
     exact At.mid1 (0) (minF_n (by omega) (by omega)) (.cons rfl (.cons rfl (.cons rfl (.cons rfl (.cons rfl .nil))))) (List.Sublist.refl _) rfl
  ·
   have hm := hi
   refine W ?_
   refine At.lit (k := zK) rfl rfl rfl Tryz.underlying25 et_3 (.k rfl .nil) (.cons rfl .nil) rfl rfl rfl (fun v1 => ⟨.all, ?_⟩)
   refine At.app (k := zK) rfl rfl rfl Tryz.underlying25 et_3 (.t rfl) (.t rfl) (fun _ => by (exact U1)) (wN M0) (by (simp <;> omega)) (fun v2 => ⟨.all, ?_⟩)
   refine W ?_
   exact At.again3 (i + 1) (out ++ [m]) (v2) ⟨by omega, by rw [hi2, hm]; rfl, by simp; omega⟩ (by omega) (.cons rfl (.cons rfl (.cons rfl (.cons rfl .nil)))) sl rfl
 ·
  refine W ?_
  exact At.final (N' := [rowE zK 3 v out]) rfl (.t rfl) (List.Sublist.refl _) (⟨by rw [show i = gs.length from by omega] at hi2; rw [hi2], rfl⟩)
end Go.Proofs.YtbolanigdkgbdaaGreat
namespace Go.Proofs.YtbolanigdkgbdaaGreat
open Go Go.RowKit
set_option linter.unusedVariables false
def cellP (x : Itm) : Cel := ⟨min (max x.ver 0) 16777212 + 3, x.key, x.data⟩
def cellsP (cap : Nat) (g : List Itm) (k : Nat) : List Cel := (g.take k).map cellP ++ List.replicate (cap - k) ⟨0, 0, 0⟩
theorem cellsP_zero (cap : Nat) (g : List Itm) : cellsP cap g 0 = List.replicate cap ⟨0, 0, 0⟩ := by simp [cellsP]
theorem cellsP_len {cap : Nat} {g : List Itm} {k : Nat} (hk : k ≤ g.length) (hc : g.length ≤ cap) : (cellsP cap g k).length = cap := by simp [cellsP]; omega
theorem cellsP_step {cap : Nat} {g : List Itm} {k : Nat} (hk : k < g.length) (hc : g.length ≤ cap) : (cellsP cap g k).set ((k : Int)).toNat (cellP (gE g (k : Int))) = cellsP cap g (k + 1) := by
  unfold cellsP
  have hl : ((g.take k).map cellP).length = k := by simp; omega
  rw [take_snoc hk, List.map_append, Int.toNat_natCast, List.set_append_right _ _ (by omega), hl, Nat.sub_self, show cap - k = (cap - (k + 1)) + 1 by omega, List.replicate_succ]
  simp
def minG (least : Int) (G : List (List Itm)) (i : Nat) : Int := if i = 0 then least else if (gE G (i : Int)).length = 0 then 0 else (gE (gE G (i : Int)) 0).key
theorem minF_eq (least : Int) (gs : List (Value × List Itm)) (i : Nat) : minF least gs i = minG least (gs.map (·.2)) i := by
  unfold minF minG
  rw [gE_map (fun x : Value × List Itm => x.2) rfl]
theorem minsF_len (least : Int) (gs : List (Value × List Itm)) : ∀ n, (minsF least gs n).length = n
  | 0 => rfl
  | n + 1 => by rw [minsF, List.length_append, minsF_len least gs n]; rfl
theorem minsF_at {least : Int} {gs : List (Value × List Itm)} : ∀ {n i : Nat}, i < n → gE (minsF least gs n) (i : Int) = minG least (gs.map (·.2)) i
  | 0, i, h => absurd h (Nat.not_lt_zero _)
  | n + 1, i, h => by
    rw [minsF]
    unfold gE
    rw [Int.toNat_natCast, List.getD_eq_getElem?_getD]
    rcases Nat.lt_or_ge i n with h1 | h1
    · rw [List.getElem?_append_left (by rw [minsF_len]; exact h1)]
      have := minsF_at (least := least) (gs := gs) h1
      unfold gE at this
      rw [Int.toNat_natCast, List.getD_eq_getElem?_getD] at this
      exact this
    · have e : i = n := by omega
      subst e
      rw [List.getElem?_append_right (by rw [minsF_len]; exact Nat.le_refl _), minsF_len, Nat.sub_self, minF_eq]; rfl
abbrev hd (x : Chk) : List Int := [x.a0, x.a1, x.a2, x.a3, x.a4, x.a5, x.a6, x.a7]
def chunkS (cap : Nat) (at_ after least : Int) (G : List (List Itm)) (i : Nat) : List Int × List Cel :=
  ([at_ + (i : Int) * (7 + 3 * (cap : Int)), minG least G i, ((gE G (i : Int)).length : Int), 2 * min (max (if i + 1 = G.length then after else at_ + (i : Int) * (7 + 3 * (cap : Int)) + (7 + 3 * (cap : Int))) 0) 1073741824, 0, 0, 0, 0], cellsP cap (gE G (i : Int)) (gE G (i : Int)).length)
def chunksF (cap : Nat) (at_ after least : Int) (G : List (List Itm)) : List (List Int × List Cel) := if ∀ g ∈ G, g.length ≤ cap then (List.range G.length).map (chunkS cap at_ after least G) else []
def IsC (Eo E : TypeId) (L : List (List Int × List Cel)) : Value → Hp → Hp → Prop := fun v N H => ∃ cs : List (Chk × List Cel), cs.map (fun x => (hd x.1, x.2)) = L ∧ N = rowE chK Eo v (cs.map (·.1)) :: csg E cs ∧ H = []
theorem chunks_none {cap : Nat} {at_ after least : Int} {G : List (List Itm)} {i : Nat} (hi : i < G.length) (h : (cap : Int) < (gE G (i : Int)).length) : [] = chunksF cap at_ after least G := by
  unfold chunksF
  rw [if_neg]
  intro hall
  have := hall _ (gE_mem' (l := G) (j := (i : Int)) (by omega))
  omega
theorem chunks_all {cap : Nat} {at_ after least : Int} {G : List (List Itm)} {i : Nat} (hi : i = G.length) (h : ∀ j : Nat, j < i → (gE G (j : Int)).length ≤ cap) : (List.range i).map (chunkS cap at_ after least G) = chunksF cap at_ after least G := by
  unfold chunksF
  rw [if_pos, hi]
  intro g hg
  obtain ⟨j, hj, rfl⟩ := List.mem_iff_getElem.1 hg
  have := h j (by omega)
  simpa [gE, hj] using this
theorem range_snoc {β : Type} (f : Nat → β) (i : Nat) : (List.range (i + 1)).map f = (List.range i).map f ++ [f i] := by rw [List.range_succ, List.map_append]; rfl
theorem mul_step (i : Nat) (s : Int) : ((i + 1 : Nat) : Int) * s = (i : Int) * s + s := by rw [show ((i + 1 : Nat) : Int) = (i : Int) + 1 by omega, Int.add_mul]; omega
theorem snd_at {gs : List (Value × List Itm)} {j : Int} : gE (gs.map (·.2)) j = (gE gs j).2 := gE_map (fun x : Value × List Itm => x.2) rfl gs j
theorem row_cells {v : Value} {E : TypeId} {cap : Nat} {g : List Itm} (h : g.length ≤ cap) : Ent.row v E 3 (List.replicate cap (⟨0, 0, 0⟩ : Cel)).length (cellK.all (cellsP cap g g.length)) = rowE cellK E v (cellsP cap g g.length) := by
  rw [rowE, cellsP_len (Nat.le_refl _) h, List.length_replicate]
end Go.Proofs.YtbolanigdkgbdaaGreat
namespace Go.Proofs.YtbolanigdkgbdaaGreat
open Go Go.RowKit
set_option linter.unusedVariables false
structure Rr where
  w : List Int
  n : Int
  k : Int
  at_ : Int
  old : Int
  nw : Int
  ok : Bool
abbrev raC (wv : Value) (r : Rr) : Array Value := #[wv, .int .i64 r.n, .int .i64 r.k, .int .i64 r.at_, .int .i64 r.old, .int .i64 r.nw, .bool r.ok]
abbrev raB (b : Nat) (wv : Value) (r : Rr) : Ent := .blk b (.cells (raC wv r) 59)
abbrev raW (wv : Value) (n : Nat) (r : Rr) : Ent := .row wv 3 1 n (zK.all r.w)
abbrev raR (wv : Value) (n : Nat) (r : Rr) : Ent := .rd wv 1 n (zK.all r.w)
def Rr.hit (r : Rr) (i : Int) : Bool := decide (0 ≤ i) && decide (i < (r.w.length : Int))
theorem Rr.hit_yes {r : Rr} {i : Int} (h : r.hit i = true) : 0 ≤ i ∧ i < r.w.length := by simpa [Rr.hit] using h
def Rr.few (r : Rr) : Prop := 0 ≤ r.n ∧ r.n ≤ 1000000000
def Rr.mid (M : Int) (r : Rr) : Prop := ∀ x ∈ r.w, -M ≤ x ∧ x ≤ M
def Rr.peek (r : Rr) (i : Int) : Int := if r.hit i = true then gE r.w i else 0
def Rr.poke (r : Rr) (i x : Int) : Rr := if r.hit i = true then ⟨r.w.set i.toNat x, r.n, r.k, r.at_, r.old, r.nw, r.ok⟩ else r
def Rr.did (r : Rr) (k i old : Int) (ok : Bool) : Rr := ⟨r.w, r.n + 1, k, i, old, r.peek i, ok⟩
def Rr.load (r : Rr) (i : Int) : Rr := r.did 1 i (r.peek i) false
def Rr.store (r : Rr) (i x : Int) : Rr := (r.poke i x).did 2 i (r.peek i) false
def Rr.swaps (r : Rr) (i old : Int) : Bool := r.hit i && decide (r.peek i = old)
def Rr.swap (r : Rr) (i old x : Int) : Rr := (if r.swaps i old = true then r.poke i x else r).did 3 i (r.peek i) (r.swaps i old)
def Rr.add (r : Rr) (i x : Int) : Rr := (r.poke i (r.peek i + x)).did 4 i (r.peek i) false
theorem Rr.poke_len (r : Rr) (i x : Int) : (r.poke i x).w.length = r.w.length := by unfold Rr.poke; split <;> simp
theorem Rr.did_len (r : Rr) (k i old : Int) (ok : Bool) : (r.did k i old ok).w.length = r.w.length := rfl
theorem Rr.load_len (r : Rr) (i : Int) : (r.load i).w.length = r.w.length := rfl
theorem Rr.store_len (r : Rr) (i x : Int) : (r.store i x).w.length = r.w.length := Rr.poke_len _ _ _
theorem Rr.swap_len (r : Rr) (i o x : Int) : (r.swap i o x).w.length = r.w.length := by
  unfold Rr.swap; rw [Rr.did_len]; split
  · exact Rr.poke_len _ _ _
  · rfl
theorem Rr.add_len (r : Rr) (i x : Int) : (r.add i x).w.length = r.w.length := Rr.poke_len _ _ _
theorem Rr.poke_n (r : Rr) (i x : Int) : (r.poke i x).n = r.n := by unfold Rr.poke; split <;> rfl
theorem Rr.poke_mid {M : Int} {r : Rr} (h : r.mid M) {i x : Int} (hx : -M ≤ x ∧ x ≤ M) : (r.poke i x).mid M := by
  unfold Rr.poke; split
  · intro z hz
    rcases List.mem_or_eq_of_mem_set hz with h2 | rfl
    · exact h z h2
    · exact hx
  · exact h
theorem Rr.peek_mid {M : Int} {r : Rr} (h : r.mid M) (h0 : 0 ≤ M) (i : Int) : -M ≤ r.peek i ∧ r.peek i ≤ M := by
  unfold Rr.peek
  split
  · rename_i hh
    obtain ⟨h1, h2⟩ := Rr.hit_yes hh
    refine h _ ?_
    unfold gE
    rw [List.getD_eq_getElem?_getD, List.getElem?_eq_getElem (by omega)]
    exact List.getElem_mem _
  · omega
theorem Rr.load_mid {M : Int} {r : Rr} (h : r.mid M) (i : Int) : (r.load i).mid M := h
theorem Rr.store_mid {M : Int} {r : Rr} (h : r.mid M) {i x : Int} (hx : -M ≤ x ∧ x ≤ M) : (r.store i x).mid M := Rr.poke_mid h hx
theorem Rr.swap_mid {M : Int} {r : Rr} (h : r.mid M) {i o x : Int} (hx : -M ≤ x ∧ x ≤ M) : (r.swap i o x).mid M := by
  show (if r.swaps i o = true then r.poke i x else r).mid M
  split
  · exact Rr.poke_mid h hx
  · exact h
theorem Rr.up_mid {M M' : Int} {r : Rr} (h : r.mid M) (hM : M ≤ M') : r.mid M' := fun x hx => by have := h x hx; omega
theorem Rr.add_mid {M M' : Int} {r : Rr} (h : r.mid M) (h0 : 0 ≤ M) {i x : Int} (hx : -(M' - M) ≤ x ∧ x ≤ M' - M) (hM : M ≤ M') : (r.add i x).mid M' := by
  refine Rr.poke_mid (Rr.up_mid h hM) ?_
  have := Rr.peek_mid h h0 i
  omega
theorem keysRa {b n : Nat} {wv : Value} {x y x' y' : Rr} : keys [raB b wv x, raW wv n y] = keys [raB b wv x', raW wv n y'] := rfl
end Go.Proofs.YtbolanigdkgbdaaGreat
namespace Go.Proofs.YtbolanigdkgbdaaGreat
open Go Go.RowKit
set_option maxRecDepth 10000
set_option linter.unusedVariables false
theorem bt_57 : buildTab Tryz.prog 57 = some (#[.int .i64 0, .int .i64 0, .int .i64 0, .int .i64 0, .bool false], [(0, 1), (1, 1), (2, 1), (3, 1), (4, 1)]) := by kernel_rfl
theorem fo_59_0 : fieldOff? Tryz.prog 59 0 = some 0 := by kernel_rfl
theorem fo_59_1 : fieldOff? Tryz.prog 59 1 = some 1 := by kernel_rfl
theorem fo_59_2 : fieldOff? Tryz.prog 59 2 = some 2 := by kernel_rfl
theorem sz_57 : (Tryz.prog.info? 57).map (·.size) = some 5 := by kernel_rfl
theorem r_is {b n : Nat} {wv : Value} {r : Rr} (hn : r.w.length = n) (hN : n ≤ 1000000) {i : Int} : Fn Tryz.prog 46 [.pointer (some ⟨b, 0, none⟩), .int .i64 i] ([raB b wv r, raR wv n r]) ([]) (IsV (.bool (r.hit i))) := by
 refine Fn.enter Tryz.func46 (by kernel_rfl) rfl (n := 16) rfl rfl (fun w => ?_)
 refine Z ?_
 exact fT rfl (.t rfl) (⟨congrArg Value.bool (by unfold Rr.hit; rw [hn]), rfl, rfl⟩)
theorem r_Peek {b n : Nat} {wv : Value} {r : Rr} (hn : r.w.length = n) (hN : n ≤ 1000000) {i : Int} : Fn Tryz.prog 13 [.pointer (some ⟨b, 0, none⟩), .int .i64 i] ([raB b wv r, raR wv n r]) ([]) (IsV (.int .i64 (r.peek i))) := by
 refine Fn.enter Tryz.func13 (by kernel_rfl) rfl (n := 16) rfl rfl (fun w => ?_)
 refine W ?_
 refine At.callVR rfl rfl rfl (.k rfl (.k rfl .nil)) (.blk (.st M0) (.cons (rS M1) .nil)) (fun hg => r_is hn hN (r := r)) .all ?_
 refine Z ?_
 refine At.cond (.t rfl) (fun c1 => ?_) (fun c1 => ?_)
 ·
  refine W ?_
  exact fT rfl (.t rfl) (⟨congrArg (Value.int .i64) (by unfold Rr.peek; (rw [if_neg (by simpa using c1)])), rfl, rfl⟩)
 ·
  have hh := Rr.hit_yes (by simpa using c1)
  refine W ?_
  exact fT rfl (.t rfl) (⟨congrArg (Value.int .i64) (by unfold Rr.peek; (rw [if_pos (by simpa using c1)])), rfl, rfl⟩)
theorem r_Poke {b n : Nat} {wv : Value} {r : Rr} (hn : r.w.length = n) (hN : n ≤ 1000000) {i x : Int} : Fn Tryz.prog 66 [.pointer (some ⟨b, 0, none⟩), .int .i64 i, .int .i64 x] ([]) ([raB b wv r, raW wv n r]) (IsM (.tuple #[]) [raB b wv (r.poke i x), raW wv n (r.poke i x)]) := by
 refine Fn.enter Tryz.func66 (by kernel_rfl) rfl (n := 16) rfl rfl (fun w => ?_)
 refine W ?_
 refine At.callVR rfl rfl rfl (.k rfl (.k rfl .nil)) (.blk (.st M0) (.cons (wS M1) .nil)) (fun hg => r_is hn hN (r := r)) .all ?_
 refine W ?_
 refine At.cond (.t rfl) (fun c1 => ?_) (fun c1 => ?_)
 ·
  have hh := Rr.hit_yes (by simpa using c1); refine At.rowForm (v := wv) (M1) (by omega) (fun g cap hv => ?_); subst hv
  refine W ?_
  refine At.stRow (k := zK) rfl rfl sz_3 (.t rfl) (.t rfl) rfl (.h U1) (by omega) (by omega) ⟨.all, ?_⟩
  refine W ?_
  exact At.final0 rfl (List.nil_sublist _) (⟨rfl, rfl, by unfold Rr.poke; (rw [if_pos (by simpa using c1)])⟩) _ (.inr rfl)
 ·
  refine W ?_
  exact At.final0 rfl (List.nil_sublist _) (⟨rfl, rfl, by unfold Rr.poke; (rw [if_neg (by simpa using c1)])⟩) _ (.inr rfl)
theorem r_did {b n : Nat} {wv : Value} {r : Rr} (hn : r.w.length = n) (hN : n ≤ 1000000) (hf : r.few) {k i old : Int} {ok : Bool} : Fn Tryz.prog 90 [.pointer (some ⟨b, 0, none⟩), .int .i64 k, .int .i64 i, .int .i64 old, .bool ok] ([]) ([raB b wv r, raW wv n r]) (IsM (.tuple #[]) [raB b wv (r.did k i old ok), raW wv n (r.did k i old ok)]) := by
 refine Fn.enter Tryz.func90 (by kernel_rfl) rfl (n := 28) rfl rfl (fun w => ?_)
 obtain ⟨hf1, hf2⟩ := hf
 refine W ?_
 refine At.st1 rfl rfl sz_3 (.t rfl) (.t rfl) rfl rfl (.h U0) ⟨.all, ?_⟩
 refine W ?_
 refine At.callVR rfl rfl rfl (.k rfl (.k rfl .nil)) (.blk (.st M0) (.cons (wS M1) .nil)) (fun hg => r_Peek (r := ⟨r.w, r.n + 1, r.k, r.at_, r.old, r.nw, r.ok⟩) hn hN) .all ?_
 refine W ?_
 refine eA rfl (R.build bt_57 (.k rfl (.k rfl (.k rfl (.k rfl (.k rfl .nil))))) (.cons rfl (.cons rfl (.cons rfl (.cons rfl (.cons rfl .nil))))) rfl) ?_
 refine W ?_
 refine At.stN rfl rfl sz_57 (.t rfl) (.t rfl) rfl rfl rfl (.h U0) ⟨.all, ?_⟩
 refine W ?_
 exact At.final0 rfl (List.nil_sublist _) (⟨rfl, rfl, rfl⟩) _ (.inr rfl)
theorem r_Load {b n : Nat} {wv : Value} {r : Rr} (hn : r.w.length = n) (hN : n ≤ 1000000) (hf : r.few) {i : Int} : Fn Tryz.prog 61 [.pointer (some ⟨b, 0, none⟩), .int .i64 i] ([]) ([raB b wv r, raW wv n r]) (IsM (.int .i64 (r.peek i)) [raB b wv (r.load i), raW wv n (r.load i)]) := by
 refine Fn.enter Tryz.func61 (by kernel_rfl) rfl (n := 14) rfl rfl (fun w => ?_)
 refine W ?_
 refine At.callVR rfl rfl rfl (.k rfl (.k rfl .nil)) (.blk (.st M0) (.cons (wS M1) .nil)) (fun hg => r_Peek (r := r) hn hN) .all ?_
 refine W ?_
 refine cM rfl rfl rfl (.k rfl (.kc (.k rfl (.k rfl (.kc .nil))))) rfl (.h (.take (.take .nil))) .nil (r_did (r := r) hn hN hf) keysRa .nil ⟨.all, ?_⟩
 refine W ?_
 exact fT rfl (.t rfl) (⟨rfl, rfl, rfl⟩)
theorem r_Store {b n : Nat} {wv : Value} {r : Rr} (hn : r.w.length = n) (hN : n ≤ 1000000) (hf : r.few) {i x : Int} : Fn Tryz.prog 126 [.pointer (some ⟨b, 0, none⟩), .int .i64 i, .int .i64 x] ([]) ([raB b wv r, raW wv n r]) (IsM (.tuple #[]) [raB b wv (r.store i x), raW wv n (r.store i x)]) := by
 refine Fn.enter Tryz.func126 (by kernel_rfl) rfl (n := 18) rfl rfl (fun w => ?_)
 refine W ?_
 refine At.callVR rfl rfl rfl (.k rfl (.k rfl .nil)) (.blk (.st M0) (.cons (wS M1) .nil)) (fun hg => r_Peek (r := r) hn hN) .all ?_
 refine W ?_
 refine cM rfl rfl rfl (.k rfl (.k rfl (.k rfl .nil))) rfl (.h (.take (.take .nil))) .nil (r_Poke (r := r) (i := i) (x := x) hn hN) keysRa .nil ⟨.all, ?_⟩
 refine W ?_
 refine cM rfl rfl rfl (.k rfl (.kc (.k rfl (.k rfl (.kc .nil))))) rfl (.h (.take (.take .nil))) .nil (r_did (r := (r.poke i x)) (by rw [Rr.poke_len]; exact hn) hN (by unfold Rr.few; rw [Rr.poke_n]; exact hf)) keysRa .nil ⟨.all, ?_⟩
 refine W ?_
 exact At.final0 rfl (List.nil_sublist _) (⟨rfl, rfl, rfl⟩) _ (.inr rfl)
theorem r_Add {b n : Nat} {wv : Value} {r : Rr} (hn : r.w.length = n) (hN : n ≤ 1000000) (hf : r.few) {i x : Int} (hx : -9223372036854775808 ≤ r.peek i + x ∧ r.peek i + x ≤ 9223372036854775807) : Fn Tryz.prog 149 [.pointer (some ⟨b, 0, none⟩), .int .i64 i, .int .i64 x] ([]) ([raB b wv r, raW wv n r]) (IsM (.int .i64 (r.peek i)) [raB b wv (r.add i x), raW wv n (r.add i x)]) := by
 refine Fn.enter Tryz.func149 (by kernel_rfl) rfl (n := 22) rfl rfl (fun w => ?_)
 refine W ?_
 refine At.callVR rfl rfl rfl (.k rfl (.k rfl .nil)) (.blk (.st M0) (.cons (wS M1) .nil)) (fun hg => r_Peek (r := r) hn hN) .all ?_
 refine W ?_
 refine cM rfl rfl rfl (.k rfl (.k rfl (.k rfl .nil))) rfl (.h (.take (.take .nil))) .nil (r_Poke (r := r) (i := i) (x := (r.peek i + x)) hn hN) keysRa .nil ⟨.all, ?_⟩
 refine W ?_
 refine cM rfl rfl rfl (.k rfl (.kc (.k rfl (.k rfl (.kc .nil))))) rfl (.h (.take (.take .nil))) .nil (r_did (r := (r.poke i (r.peek i + x))) (by rw [Rr.poke_len]; exact hn) hN (by unfold Rr.few; rw [Rr.poke_n]; exact hf)) keysRa .nil ⟨.all, ?_⟩
 refine W ?_
 exact fT rfl (.t rfl) (⟨rfl, rfl, rfl⟩)
theorem r_Swap {b n : Nat} {wv : Value} {r : Rr} (hn : r.w.length = n) (hN : n ≤ 1000000) (hf : r.few) {i o x : Int} : Fn Tryz.prog 64 [.pointer (some ⟨b, 0, none⟩), .int .i64 i, .int .i64 o, .int .i64 x] ([]) ([raB b wv r, raW wv n r]) (IsM (.bool (r.swaps i o)) [raB b wv (r.swap i o x), raW wv n (r.swap i o x)]) := by
 refine Fn.enter Tryz.func64 (by kernel_rfl) rfl (n := 33) rfl rfl (fun w => ?_)
 refine W ?_
 refine At.callVR rfl rfl rfl (.k rfl (.k rfl .nil)) (.blk (.st M0) (.cons (wS M1) .nil)) (fun hg => r_Peek (r := r) hn hN) .all ?_
 refine W ?_
 refine At.callVR rfl rfl rfl (.k rfl (.k rfl .nil)) (.blk (.st M0) (.cons (wS M1) .nil)) (fun hg => r_is hn hN (r := r)) .all ?_
 refine Z ?_
 refine At.cond (.t rfl) (fun c1 => ?_) (fun c1 => ?_)
 ·
  have hs : r.swaps i o = true := c1
  refine W ?_
  refine cM rfl rfl rfl (.k rfl (.k rfl (.k rfl .nil))) rfl (.h (.take (.take .nil))) .nil (r_Poke (r := r) (i := i) (x := x) hn hN) keysRa .nil ⟨.all, ?_⟩
  refine W ?_
  refine cM rfl rfl rfl (.k rfl (.kc (.k rfl (.k rfl (.k rfl .nil))))) rfl (.h (.take (.take .nil))) .nil (r_did (r := (r.poke i x)) (by rw [Rr.poke_len]; exact hn) hN (by unfold Rr.few; rw [Rr.poke_n]; exact hf)) keysRa .nil ⟨.all, ?_⟩
  refine W ?_
  exact fT rfl (.t rfl) (⟨rfl, rfl, by unfold Rr.swap; (rw [if_pos hs]; rfl)⟩)
 ·
  have hs : r.swaps i o = false := (c1)
  refine W ?_
  refine cM rfl rfl rfl (.k rfl (.kc (.k rfl (.k rfl (.k rfl .nil))))) rfl (.h (.take (.take .nil))) .nil (r_did (r := r) hn hN hf) keysRa .nil ⟨.all, ?_⟩
  refine W ?_
  exact fT rfl (.t rfl) (⟨rfl, rfl, by unfold Rr.swap; (rw [if_neg (by rw [hs]; exact Bool.false_ne_true)]; rfl)⟩)
end Go.Proofs.YtbolanigdkgbdaaGreat
namespace Go.Proofs.YtbolanigdkgbdaaGreat
open Go Go.RowKit
set_option maxRecDepth 10000
set_option linter.unusedVariables false
theorem fo_23_0 : fieldOff? Tryz.prog 23 0 = some 0 := by kernel_rfl
theorem fo_23_1 : fieldOff? Tryz.prog 23 1 = some 1 := by kernel_rfl
theorem sz_23 : (Tryz.prog.info? 23).map (·.size) = some 4 := by kernel_rfl
def verD (s : Int) : Int := if s < 3 then -1 else s - 3
def claimD (s p : Int) : Int := max 0 (min s 1073741824) * 16777216 + max 0 (min p 16777212)
def dataD (wr v : Int) : Int := max 0 (min wr 1048576) * 2097152 + (max (-1) (min v 1048576) + 1)
def nextD (at_ : Int) (m : Bool) : Int := max 0 (min at_ 1073741824) * 2 + if m = true then 1 else 0
theorem r_Psa {t : Int} (h0 : 0 ≤ t ∧ t ≤ 1000000) : Fn Tryz.prog 127 [.int .i64 t] ([]) ([]) (IsV (.int .i64 (3 + t))) := by
 refine Fn.enter Tryz.func127 (by kernel_rfl) rfl (n := 5) rfl rfl (fun w => ?_)
 refine W ?_
 exact fT rfl (.t rfl) (⟨congrArg (Value.int .i64) (by omega), rfl, rfl⟩)
theorem r_Hint {a b c d : Int} {key : Int} (h0 : 0 ≤ a ∧ a ≤ 1000000) (h1 : 0 ≤ key ∧ key ≤ 255) : Fn Tryz.prog 151 [.agg #[.int .i64 a, .int .i64 b, .int .i64 c, .int .i64 d], .int .i64 key] ([]) ([]) (IsV (.int .i64 (3 + a + key / 16))) := by
 refine Fn.enter Tryz.func151 (by kernel_rfl) rfl (n := 11) rfl rfl (fun w => ?_)
 refine W ?_
 refine At.box rfl rfl rfl (.t rfl) (fun b1 hb1 => ⟨.all, ?_⟩)
 refine W ?_
 refine eA rfl (R.shrV (m := 16) (.t rfl) .c (by decide) (by decide)) ?_
 refine W ?_
 exact fT rfl (.t rfl) (⟨congrArg (Value.int .i64) (by omega), rfl, rfl⟩)
theorem r_Head {a b c d : Int} (h0 : 0 ≤ a ∧ a ≤ 1000000) : Fn Tryz.prog 79 [.agg #[.int .i64 a, .int .i64 b, .int .i64 c, .int .i64 d]] ([]) ([]) (IsV (.int .i64 (7 + a))) := by
 refine Fn.enter Tryz.func79 (by kernel_rfl) rfl (n := 7) rfl rfl (fun w => ?_)
 refine W ?_
 refine At.box rfl rfl rfl (.t rfl) (fun b1 hb1 => ⟨.all, ?_⟩)
 refine W ?_
 exact fT rfl (.t rfl) (⟨congrArg (Value.int .i64) (by omega), rfl, rfl⟩)
theorem r_First {a b c d : Int} (h0 : 0 ≤ a ∧ a ≤ 1000000) : Fn Tryz.prog 45 [.agg #[.int .i64 a, .int .i64 b, .int .i64 c, .int .i64 d]] ([]) ([]) (IsV (.int .i64 (14 + a))) := by
 refine Fn.enter Tryz.func45 (by kernel_rfl) rfl (n := 6) rfl rfl (fun w => ?_)
 refine W ?_
 refine At.box rfl rfl rfl (.t rfl) (fun b1 hb1 => ⟨.all, ?_⟩)
 refine W ?_
 refine At.callVR rfl rfl rfl (.k rfl .nil) (.nil) (fun hg => r_Head (by omega)) .all ?_
 refine W ?_
 exact fT rfl (.t rfl) (⟨congrArg (Value.int .i64) (by omega), rfl, rfl⟩)
theorem r_Size {a b c d : Int} (h0 : 0 ≤ b ∧ b ≤ 1000000) : Fn Tryz.prog 110 [.agg #[.int .i64 a, .int .i64 b, .int .i64 c, .int .i64 d]] ([]) ([]) (IsV (.int .i64 (7 + 3 * b))) := by
 refine Fn.enter Tryz.func110 (by kernel_rfl) rfl (n := 7) rfl rfl (fun w => ?_)
 refine W ?_
 refine At.box rfl rfl rfl (.t rfl) (fun b1 hb1 => ⟨.all, ?_⟩)
 refine W ?_
 exact fT rfl (.t rfl) (⟨congrArg (Value.int .i64) (by omega), rfl, rfl⟩)
theorem r_Top {a b c d : Int} (h0 : 0 ≤ a ∧ a ≤ 1000000) (h1 : 0 ≤ b ∧ b ≤ 1000000) : Fn Tryz.prog 94 [.agg #[.int .i64 a, .int .i64 b, .int .i64 c, .int .i64 d]] ([]) ([]) (IsV (.int .i64 (21 + a + 3 * b))) := by
 refine Fn.enter Tryz.func94 (by kernel_rfl) rfl (n := 8) rfl rfl (fun w => ?_)
 refine W ?_
 refine At.box rfl rfl rfl (.t rfl) (fun b1 hb1 => ⟨.all, ?_⟩)
 refine W ?_
 refine At.drawK [tt 0, tt 2, ff 1, ff 3, tt 4, tt 5] (by kernel_rfl) (by kernel_rfl) ?_
 refine W ?_
 refine At.callVR rfl rfl rfl (.k rfl .nil) (.nil) (fun hg => r_First (by omega)) kI ?_
 refine At.callVR rfl rfl rfl (.k rfl .nil) (.nil) (fun hg => r_Size (by omega)) kI ?_
 refine W ?_
 exact fT rfl (.t rfl) (⟨congrArg (Value.int .i64) (by omega), rfl, rfl⟩)
theorem r_StateAt {s i : Int} (h0 : -2305843009213693952 ≤ s ∧ s ≤ 2305843009213693952) (h1 : -1000000 ≤ i ∧ i ≤ 1000000) : Fn Tryz.prog 16 [.int .i64 s, .int .i64 i] ([]) ([]) (IsV (.int .i64 (s + 7 + 3 * i))) := by
 refine Fn.enter Tryz.func16 (by kernel_rfl) rfl (n := 10) rfl rfl (fun w => ?_)
 refine W ?_
 exact fT rfl (.t rfl) (⟨congrArg (Value.int .i64) (by omega), rfl, rfl⟩)
theorem r_At {w : Int} : Fn Tryz.prog 78 [.int .i64 w] ([]) ([]) (IsV (.int .i64 (w / 2))) := by
 refine Fn.enter Tryz.func78 (by kernel_rfl) rfl (n := 5) rfl rfl (fun w => ?_)
 refine W ?_
 refine eA rfl (R.shrV (m := 2) (.t rfl) .c (by decide) (by decide)) ?_
 refine W ?_
 exact fT rfl (.t rfl) (⟨congrArg (Value.int .i64) (by omega), rfl, rfl⟩)
theorem r_held {x y z : Int} : Fn Tryz.prog 56 [.int .i64 x, .int .i64 y, .int .i64 z] ([]) ([]) (IsV (.int .i64 (max y (min x z)))) := by
 refine Fn.enter Tryz.func56 (by kernel_rfl) rfl (n := 12) rfl rfl (fun w => ?_)
 refine Z ?_
 exact fT rfl (.t rfl) (⟨rfl, rfl, rfl⟩)
theorem r_State {s : Int} : Fn Tryz.prog 18 [.int .i64 s] ([]) ([]) (IsV (.int .i64 (min (max s 0) 16777212 + 3))) := by
 refine Fn.enter Tryz.func18 (by kernel_rfl) rfl (n := 6) rfl rfl (fun w => ?_)
 refine W ?_
 refine At.callVR rfl rfl rfl (.k rfl (.kc (.kc .nil))) (.nil) (fun hg => r_held) .all ?_
 refine W ?_
 exact fT rfl (.t rfl) (⟨congrArg (Value.int .i64) (by omega), rfl, rfl⟩)
theorem r_Version {s : Int} (h0 : -2305843009213693952 ≤ s ∧ s ≤ 2305843009213693952) : Fn Tryz.prog 19 [.int .i64 s] ([]) ([]) (IsV (.int .i64 (verD s))) := by
 refine Fn.enter Tryz.func19 (by kernel_rfl) rfl (n := 7) rfl rfl (fun w => ?_)
 refine Z ?_
 refine At.condD (.t rfl) (fun c1 => ?_) (fun c1 => ?_)
 ·
  refine W ?_
  exact fT rfl (.t rfl) (⟨congrArg (Value.int .i64) (by unfold verD; rw [if_pos (by omega)]), rfl, rfl⟩)
 ·
  refine W ?_
  exact fT rfl (.t rfl) (⟨congrArg (Value.int .i64) (by unfold verD; rw [if_neg (by omega)]), rfl, rfl⟩)
theorem r_Claim {s p : Int} : Fn Tryz.prog 128 [.int .i64 s, .int .i64 p] ([]) ([]) (IsV (.int .i64 (claimD s p))) := by
 refine Fn.enter Tryz.func128 (by kernel_rfl) rfl (n := 11) rfl rfl (fun w => ?_)
 refine W ?_
 refine At.callVR rfl rfl rfl (.k rfl (.kc (.kc .nil))) (.nil) (fun hg => r_held) .all ?_
 refine eA rfl (R.shlV (m := 16777216) (.t rfl) .c (by decide) (by decide) (fun _ => IntWalk.i64_in _ (by omega))) ?_
 refine W ?_
 refine At.callVR rfl rfl rfl (.k rfl (.kc (.kc .nil))) (.nil) (fun hg => r_held) .all ?_
 refine eA rfl (R.orV (j := 24) (.t rfl) (.t rfl) (fun hg => ⟨by omega, by show _ % (16777216 : Int) = 0; omega, by omega, by show _ < (16777216 : Int); omega, by omega⟩)) ?_
 refine W ?_
 exact fT rfl (.t rfl) (⟨congrArg (Value.int .i64) (by unfold claimD; rfl), rfl, rfl⟩)
theorem r_Seq {w : Int} : Fn Tryz.prog 180 [.int .i64 w] ([]) ([]) (IsV (.int .i64 (w / 16777216))) := by
 refine Fn.enter Tryz.func180 (by kernel_rfl) rfl (n := 5) rfl rfl (fun w => ?_)
 refine W ?_
 refine eA rfl (R.shrV (m := 16777216) (.t rfl) .c (by decide) (by decide)) ?_
 refine W ?_
 exact fT rfl (.t rfl) (⟨congrArg (Value.int .i64) (by omega), rfl, rfl⟩)
theorem r_Part {w : Int} : Fn Tryz.prog 154 [.int .i64 w] ([]) ([]) (IsV (.int .i64 (w % 16777216))) := by
 refine Fn.enter Tryz.func154 (by kernel_rfl) rfl (n := 5) rfl rfl (fun w => ?_)
 refine W ?_
 refine eA rfl (R.andV (j := 24) (m := 16777216) (.t rfl) .c rfl (by decide) (by decide) (by decide) (fun z hz => IntWalk.i64_in z (by omega))) ?_
 refine W ?_
 exact fT rfl (.t rfl) (⟨congrArg (Value.int .i64) (by omega), rfl, rfl⟩)
theorem r_Writer {w : Int} : Fn Tryz.prog 109 [.int .i64 w] ([]) ([]) (IsV (.int .i64 (w / 2097152))) := by
 refine Fn.enter Tryz.func109 (by kernel_rfl) rfl (n := 5) rfl rfl (fun w => ?_)
 refine W ?_
 refine eA rfl (R.shrV (m := 2097152) (.t rfl) .c (by decide) (by decide)) ?_
 refine W ?_
 exact fT rfl (.t rfl) (⟨congrArg (Value.int .i64) (by omega), rfl, rfl⟩)
theorem r_Val {w : Int} : Fn Tryz.prog 129 [.int .i64 w] ([]) ([]) (IsV (.int .i64 (w % 2097152 - 1))) := by
 refine Fn.enter Tryz.func129 (by kernel_rfl) rfl (n := 6) rfl rfl (fun w => ?_)
 refine W ?_
 refine eA rfl (R.andV (j := 21) (m := 2097152) (.t rfl) .c rfl (by decide) (by decide) (by decide) (fun z hz => IntWalk.i64_in z (by omega))) ?_
 refine W ?_
 exact fT rfl (.t rfl) (⟨congrArg (Value.int .i64) (by omega), rfl, rfl⟩)
theorem r_Data {wr v : Int} : Fn Tryz.prog 99 [.int .i64 wr, .int .i64 v] ([]) ([]) (IsV (.int .i64 (dataD wr v))) := by
 refine Fn.enter Tryz.func99 (by kernel_rfl) rfl (n := 12) rfl rfl (fun w => ?_)
 refine W ?_
 refine At.callVR rfl rfl rfl (.k rfl (.kc (.kc .nil))) (.nil) (fun hg => r_held) .all ?_
 refine eA rfl (R.shlV (m := 2097152) (.t rfl) .c (by decide) (by decide) (fun _ => IntWalk.i64_in _ (by omega))) ?_
 refine W ?_
 refine At.callVR rfl rfl rfl (.k rfl (.kc (.kc .nil))) (.nil) (fun hg => r_held) .all ?_
 refine W ?_
 refine eA rfl (R.orV (j := 21) (.t rfl) (.t rfl) (fun hg => ⟨by omega, by show _ % (2097152 : Int) = 0; omega, by omega, by show _ < (2097152 : Int); omega, by omega⟩)) ?_
 refine W ?_
 exact fT rfl (.t rfl) (⟨congrArg (Value.int .i64) (by unfold dataD; rfl), rfl, rfl⟩)
theorem r_Next {at_ : Int} {m : Bool} : Fn Tryz.prog 96 [.int .i64 at_, .bool m] ([]) ([]) (IsV (.int .i64 (nextD at_ m))) := by
 refine Fn.enter Tryz.func96 (by kernel_rfl) rfl (n := 13) rfl rfl (fun w => ?_)
 refine W ?_
 refine At.callVR rfl rfl rfl (.k rfl (.kc (.kc .nil))) (.nil) (fun hg => r_held) .all ?_
 refine eA rfl (R.shlV (m := 2) (.t rfl) .c (by decide) (by decide) (fun _ => IntWalk.i64_in _ (by omega))) ?_
 refine W ?_
 refine At.cond (.t rfl) (fun c1 => ?_) (fun c1 => ?_)
 ·
  refine W ?_
  refine eA rfl (R.orV (j := 1) (.t rfl) .c (fun hg => ⟨by omega, by show _ % (2 : Int) = 0; omega, by omega, by show _ < (2 : Int); omega, by omega⟩)) ?_
  refine W ?_
  exact fT rfl (.t rfl) (⟨congrArg (Value.int .i64) (by unfold nextD; (rw [if_pos c1]; done)), rfl, rfl⟩)
 ·
  refine W ?_
  exact fT rfl (.t rfl) (⟨congrArg (Value.int .i64) (by unfold nextD; (rw [if_neg (by simpa using c1)]; omega)), rfl, rfl⟩)
theorem r_Marked {w : Int} : Fn Tryz.prog 161 [.int .i64 w] ([]) ([]) (IsV (.bool (decide (w % 2 = 1)))) := by
 refine Fn.enter Tryz.func161 (by kernel_rfl) rfl (n := 6) rfl rfl (fun w => ?_)
 refine W ?_
 refine eA rfl (R.andV (j := 1) (m := 2) (.t rfl) .c rfl (by decide) (by decide) (by decide) (fun z hz => IntWalk.i64_in z (by omega))) ?_
 refine Z ?_
 exact fT rfl (.t rfl) (⟨rfl, rfl, rfl⟩)
end Go.Proofs.YtbolanigdkgbdaaGreat
