/- K1 -/
import Derived.Test.YtejpanipdjknjaaEngE
import Derived.Test.YtejpanipdjknjaaProg
namespace Go.Proofs.Ytejpanipdjknjaa
open Go Go.RowKit
set_option maxRecDepth 10000
set_option linter.unusedVariables false
theorem bt_43 : buildTab Try.prog 43 = some (#[.int .i64 0, .int .i64 0, .int .i64 0], [(0, 1), (1, 1), (2, 1)]) := by kernel_rfl
theorem et_3 : elemTab Try.prog 3 = some (1, 8) := by kernel_rfl
theorem et_43 : elemTab Try.prog 43 = some (3, 24) := by kernel_rfl
theorem fo_43_0 : fieldOff? Try.prog 43 0 = some 0 := by kernel_rfl
theorem fo_43_1 : fieldOff? Try.prog 43 1 = some 1 := by kernel_rfl
theorem fq_43 : flatQ Try.prog 43 = some [true, true, true] := by kernel_rfl
theorem sz_3 : (Try.prog.info? 3).map (·.size) = some 1 := by kernel_rfl
theorem sz_43 : (Try.prog.info? 43).map (·.size) = some 3 := by kernel_rfl
theorem ze_43 : (Try.prog.info? 43).bind (·.zero) = some (.agg #[.int .i64 0, .int .i64 0, .int .i64 0]) := by kernel_rfl


def latB (b : Option Itm) (x : Itm) (key ver : Int) : Bool := decide (x.key = key) && decide (x.ver ≤ ver) && (match b with | none => true | some y => decide (y.ver ≤ x.ver))
def latF (l : List Itm) (key ver : Int) : Option Itm := l.foldl (fun b x => if latB b x key ver then some x else b) none
def latV (l : List Itm) (key ver : Int) : Value := .tuple #[.agg (iK.enc ((latF l key ver).getD default)).toArray, .bool (latF l key ver).isSome]
theorem latV_of {l : List Itm} {key ver : Int} {o : Option Itm} (h : latF l key ver = o) : Value.tuple #[.agg (iK.enc (o.getD default)).toArray, .bool o.isSome] = latV l key ver := by subst h; rfl

def gtI (x y : Itm) : Bool := decide (y.key < x.key) || (decide (x.key = y.key) && decide (y.ver < x.ver))
def posF (out : List Itm) (x : Itm) : Nat → Nat
  | 0 => 0
  | k + 1 => if gtI (gE out (k : Nat)) x then posF out x k else k + 1
def insF (out : List Itm) (x : Itm) : List Itm := out.take (posF out x out.length) ++ [x] ++ out.drop (posF out x out.length)
def sortF (l : List Itm) : List Itm := l.foldl insF []
theorem posF_le (out : List Itm) (x : Itm) : ∀ k, posF out x k ≤ k
  | 0 => Nat.le_refl _
  | k + 1 => by unfold posF; split
                · exact Nat.le_succ_of_le (posF_le out x k)
                · exact Nat.le_refl _
theorem insF_length (out : List Itm) (x : Itm) : (insF out x).length = out.length + 1 := by
  have := posF_le out x out.length
  simp [insF]; omega
theorem take_succ_gE {l : List Itm} {i : Nat} (h : i < l.length) : l.take (i + 1) = l.take i ++ [gE l (i : Int)] := by
  rw [List.take_succ_eq_append_getElem h]; simp [gE, h]
theorem sortF_length (l : List Itm) : (sortF l).length = l.length := by
  have : ∀ (l o : List Itm), (l.foldl insF o).length = o.length + l.length := by
    intro l
    induction l with
    | nil => intro o; simp
    | cons x l ih => intro o; rw [List.foldl_cons, ih, insF_length, List.length_cons]; omega
  have h := this l []
  rw [List.length_nil, Nat.zero_add] at h
  exact h
/-- The keys of a sorted row. -/
def keysS (out : List Int) (x : Itm) : List Int := if out.length = 0 ∨ gE out ((out.length : Int) - 1) ≠ x.key then out ++ [x.key] else out
def keysF (l : List Itm) : List Int := l.foldl keysS []
theorem keysF_step {l : List Itm} {i : Nat} (h : i < l.length) : keysF (l.take (i + 1)) = keysS (keysF (l.take i)) (gE l (i : Int)) := by
  rw [take_succ_gE h]; unfold keysF; rw [List.foldl_append]; rfl
theorem keysS_yes {out : List Int} {x : Itm} (h : (out.length : Int) = 0 ∨ ¬ gE out ((out.length : Int) - 1) = x.key) : keysS out x = out ++ [x.key] := if_pos (by rcases h with h | h; exact .inl (by omega); exact .inr h)
theorem keysS_no {out : List Int} {x : Itm} (h : ¬ (out.length : Int) = 0 ∧ gE out ((out.length : Int) - 1) = x.key) : keysS out x = out := if_neg (by rintro (h1 | h1); exact h.1 (by omega); exact h1 h.2)
theorem latF_step {l : List Itm} {key ver : Int} {i : Nat} (h : i < l.length) : latF (l.take (i + 1)) key ver = if latB (latF (l.take i) key ver) (gE l (i : Int)) key ver then some (gE l (i : Int)) else latF (l.take i) key ver := by
  rw [take_succ_gE h]; unfold latF; rw [List.foldl_append]; rfl
theorem latB_of {l : List Itm} {key ver b : Int} {i : Nat} (h : (b = -1 ∧ latF (l.take i) key ver = none) ∨ (0 ≤ b ∧ b < i ∧ latF (l.take i) key ver = some (gE l b))) :
    latB (latF (l.take i) key ver) (gE l (i : Int)) key ver = (decide ((gE l (i : Int)).key = key) && decide ((gE l (i : Int)).ver ≤ ver) && (decide (b < 0) || decide ((gE l b).ver ≤ (gE l (i : Int)).ver))) := by
  rcases h with ⟨h1, h2⟩ | ⟨h1, h2, h3⟩
  · rw [h2]; simp [latB, h1]
  · rw [h3]; have : ¬ b < 0 := by omega
    simp [latB, this]
theorem latF_yes {l : List Itm} {key ver b : Int} {i : Nat} (hi : i < l.length) (h : (b = -1 ∧ latF (l.take i) key ver = none) ∨ (0 ≤ b ∧ b < i ∧ latF (l.take i) key ver = some (gE l b)))
    (hc : ((gE l (i : Int)).key = key ∧ (gE l (i : Int)).ver ≤ ver) ∧ (b < 0 ∨ (gE l b).ver ≤ (gE l (i : Int)).ver)) : latF (l.take (i + 1)) key ver = some (gE l (i : Int)) := by
  rw [latF_step hi, latB_of h, if_pos (by simpa using hc)]
theorem latF_no {l : List Itm} {key ver b : Int} {i : Nat} (hi : i < l.length) (h : (b = -1 ∧ latF (l.take i) key ver = none) ∨ (0 ≤ b ∧ b < i ∧ latF (l.take i) key ver = some (gE l b)))
    (hc : (gE l (i : Int)).key = key → (gE l (i : Int)).ver ≤ ver → 0 ≤ b ∧ (gE l (i : Int)).ver < (gE l b).ver) : (b = -1 ∧ latF (l.take (i + 1)) key ver = none) ∨ (0 ≤ b ∧ b < ((i + 1 : Nat) : Int) ∧ latF (l.take (i + 1)) key ver = some (gE l b)) := by
  have e : latF (l.take (i + 1)) key ver = latF (l.take i) key ver := by
    rw [latF_step hi, latB_of h, if_neg (by simpa using hc)]
  rw [e]
  rcases h with h | ⟨h1, h2, h3⟩
  · exact .inl h
  · exact .inr ⟨h1, by omega, h3⟩
theorem sortF_step {l : List Itm} {i : Nat} (h : i < l.length) : insF (sortF (l.take i)) (gE l (i : Int)) = sortF (l.take (i + 1)) := by
  rw [take_succ_gE h]; simp [sortF]
theorem posF_down {out : List Itm} {x : Itm} {k : Nat} (h0 : 0 < k) (_hk : k ≤ out.length) (h : (out.length ≥ 0) → ((decide (x.key < (gE out ((k : Int) - 1)).key) || (decide ((gE out ((k : Int) - 1)).key = x.key) && decide (x.ver < (gE out ((k : Int) - 1)).ver))) = true)) : posF out x k = posF out x (k - 1) := by
  obtain ⟨k, rfl⟩ : ∃ j, k = j + 1 := ⟨k - 1, by omega⟩
  have e : ((k + 1 : Nat) : Int) - 1 = (k : Nat) := by omega
  rw [e] at h
  have h' : gtI (gE out (k : Nat)) x = true := h (Nat.zero_le _)
  simp [posF, h']
theorem posF_stop {out : List Itm} {x : Itm} {k : Nat} (h : 0 < k → gtI (gE out ((k : Int) - 1)) x = false) : posF out x k = k := by
  cases k with
  | zero => rfl
  | succ k =>
    have e : ((k + 1 : Nat) : Int) - 1 = (k : Nat) := by omega
    have := h (by omega)
    rw [e] at this
    simp [posF, this]
theorem insF_of {out : List Itm} {x : Itm} {k : Nat} (hk : k ≤ out.length) (h : posF out x out.length = k) : [] ++ (out.drop 0).take (k - 0) ++ [x] ++ (out.drop k).take (out.length - k) = insF out x := by
  rw [insF, h, List.take_of_length_le (l := out.drop k) (by simp)]; simp

theorem take_eq_all {α : Type} {a b : List α} {i : Nat} (h1 : i ≤ a.length) (h2 : a.length = b.length) (h3 : a.take i = b.take i) (h : a.length ≤ i) : a = b := by
  rwa [List.take_of_length_le h, List.take_of_length_le (by omega)] at h3
theorem take_step {α : Type} [Inhabited α] {a b : List α} {i : Nat} (h2 : a.length = b.length) (h3 : a.take i = b.take i) (h : i < a.length) (he : gE a (i : Int) = gE b (i : Int)) : a.take (i + 1) = b.take (i + 1) := by
  have hb : i < b.length := by omega
  simp only [gE, Int.toNat_natCast, List.getD_eq_getElem?_getD, List.getElem?_eq_getElem h, List.getElem?_eq_getElem hb, Option.getD_some] at he
  rw [List.take_succ_eq_append_getElem h, List.take_succ_eq_append_getElem hb, h3, he]
theorem c_SameInts {u v : Value} {a b : List Int} : Fn Try.prog 19 [u, v] [rdE zK u a, rdE zK v b] [] (IsV (.bool (decide (a = b)))) := by
  refine Fn.enter Try.func19 (by kernel_rfl) rfl (n := 26) rfl rfl (fun w => ?_)
  refine At.len (v := u) (by (exact rS M0)) (fun hl1 => ?_)
  refine At.len (v := v) (by (exact rS M1)) (fun hl2 => ?_)
  refine At.seq ?_
  refine At.plain [(false, 0)] rfl ?_
  refine At.e rfl rfl rfl rfl .all (R.assign .c) ?_
  refine At.nil ?_
  refine At.tN ?_
  refine At.seq ?_
  refine At.seq ?_
  refine At.plain [(false, 0), (false, 1), (false, 2), (false, 3), (false, 4)] rfl ?_
  refine At.e rfl rfl rfl rfl .all (R.move (.t rfl)) ?_
  refine At.e rfl rfl rfl rfl .all (R.lenRd Try.underlying32 (.t rfl) (by (exact rS M0))) ?_
  refine At.e rfl rfl rfl rfl .all (R.move (.t rfl)) ?_
  refine At.e rfl rfl rfl rfl .all (R.lenRd Try.underlying32 (.t rfl) (by (exact rS M1))) ?_
  refine At.e rfl rfl rfl rfl .all (R.neq (.t rfl) (.t rfl)) ?_
  refine At.nil ?_
  refine At.tN ?_
  refine At.condN (.t rfl) (fun c1 => ?_) (fun c1 => ?_)
  · have c1n : a.length ≠ b.length := by omega
    refine At.seq ?_
    refine At.plain [(false, 0)] rfl ?_
    refine At.e rfl rfl rfl rfl .all (R.assign .c) ?_
    refine At.nil ?_
    refine At.tN ?_
    refine At.ret ?_
    refine At.tR ?_
    exact At.final rfl (.t rfl) (List.nil_sublist _) (⟨congrArg Value.bool (by (symm; apply decide_eq_false; (intro e; subst e; omega))), rfl, rfl⟩)
  · have c1n : a.length = b.length := by omega
    refine At.skip ?_
    refine At.tN ?_
    refine At.seq ?_
    refine At.seq ?_
    refine At.plain [(false, 0)] rfl ?_
    refine At.e rfl rfl rfl rfl .all (R.assign .c) ?_
    refine At.nil ?_
    refine At.tN ?_
    refine At.block ?_
    refine At.loop1 (fun (i : Nat) => i ≤ a.length ∧ a.length = b.length ∧ a.take i = b.take i) (fun (i : Nat) => a.length - i) (fun (i : Nat) => [(0, true, u), (1, true, v), (5, true, .int .i64 i)]) (fun (i : Nat) => []) (fun (i : Nat) => []) (0) ⟨Nat.zero_le _, by omega, by simp⟩ (.cons rfl (.cons rfl (.cons rfl .nil))) (by ((repeat (first | exact List.Sublist.refl _ | exact List.nil_sublist _ | apply List.Sublist.cons_cons | apply List.Sublist.cons)))) rfl (fun i hi => ?_)
    obtain ⟨hi1, hi2, hi3⟩ := hi
    refine At.seq ?_
    refine At.seq ?_
    refine At.plain [(false, 0), (false, 1), (false, 2), (false, 3)] rfl ?_
    refine At.e rfl rfl rfl rfl .all (R.move (.t rfl)) ?_
    refine At.e rfl rfl rfl rfl .all (R.move (.t rfl)) ?_
    refine At.e rfl rfl rfl rfl .all (R.lenRd Try.underlying32 (.t rfl) (by (exact rS M0))) ?_
    refine At.e rfl rfl rfl rfl .all (R.lss (.t rfl) (.t rfl)) ?_
    refine At.nil ?_
    refine At.tN ?_
    refine At.condD (.t rfl) (fun c2 => ?_) (fun c2 => ?_)
    · skip
      refine At.skip ?_
      refine At.tN ?_
      refine At.seq ?_
      refine At.block ?_
      refine At.seq ?_
      refine At.drawK [(true, 0), (true, 1), (true, 2), (true, 3), (true, 4), (true, 5), (true, 6), (true, 7), (true, 8)] (by kernel_rfl) (by kernel_rfl) ?_
      refine At.s rfl rfl rfl rfl (Cl.kept fun _ h => h) (R.move (.t rfl)) ?_
      refine At.s rfl rfl rfl rfl (Cl.kept fun _ h => h) (R.move (.t rfl)) ?_
      refine At.s rfl rfl rfl rfl (Cl.kept fun _ h => h) (R.indexRd Try.underlying32 sz_3 (.t rfl) (by (exact rK M0)) (.t rfl) (fun hg => (by omega))) ?_
      refine At.s rfl rfl rfl rfl (Cl.kept fun _ h => h) (R.loadRd Try.underlying3 rfl (.t rfl) (by (exact rK M0)) (fun hg => by exact Ek.get0 rfl (by omega))) ?_
      refine At.s rfl rfl rfl rfl (Cl.kept fun _ h => h) (R.move (.t rfl)) ?_
      refine At.s rfl rfl rfl rfl (Cl.kept fun _ h => h) (R.move (.t rfl)) ?_
      refine At.s rfl rfl rfl rfl (Cl.kept fun _ h => h) (R.indexRd Try.underlying32 sz_3 (.t rfl) (by (exact rK M1)) (.t rfl) (fun hg => (by omega))) ?_
      refine At.s rfl rfl rfl rfl (Cl.kept fun _ h => h) (R.loadRd Try.underlying3 rfl (.t rfl) (by (exact rK M1)) (fun hg => by exact Ek.get0 rfl (by omega))) ?_
      refine At.s rfl rfl rfl rfl (Cl.kept fun _ h => h) (R.neq (.t rfl) (.t rfl)) ?_
      refine At.nil ?_
      refine At.tN ?_
      refine At.condN (.t rfl) (fun c3 => ?_) (fun c3 => ?_)
      · skip
        refine At.seq ?_
        refine At.plain [(false, 0)] rfl ?_
        refine At.e rfl rfl rfl rfl .all (R.assign .c) ?_
        refine At.nil ?_
        refine At.tN ?_
        refine At.ret ?_
        refine At.bR ?_
        refine At.tR ?_
        refine At.tR ?_
        refine At.bR ?_
        refine At.tR ?_
        exact At.final rfl (.t rfl) (List.nil_sublist _) (⟨congrArg Value.bool (by (symm; apply decide_eq_false; (intro e; subst e; omega))), rfl, rfl⟩)
      · skip
        refine At.skip ?_
        refine At.bN ?_
        refine At.tN ?_
        refine At.plain [(false, 0), (false, 1), (false, 2)] rfl ?_
        refine At.e rfl rfl rfl rfl .all (R.move (.t rfl)) ?_
        refine At.e rfl rfl rfl rfl .all (R.addI (.t rfl) .c (fun hg => by omega)) ?_
        refine At.e rfl rfl rfl rfl .all (R.assign (.t rfl)) ?_
        refine At.nil ?_
        refine At.tN ?_
        exact At.again1 (i + 1) ⟨by omega, by omega, take_step hi2 hi3 (by omega) (by simpa using c3)⟩ (by omega) (.cons rfl (.cons rfl (.cons rfl .nil))) (by ((repeat (first | exact List.Sublist.refl _ | exact List.nil_sublist _ | apply List.Sublist.cons_cons | apply List.Sublist.cons)))) rfl
    · skip
      refine At.exit ?_
      refine At.tE ?_
      refine At.tE ?_
      refine At.bE ?_
      refine At.tN ?_
      refine At.seq ?_
      refine At.plain [(false, 0)] rfl ?_
      refine At.e rfl rfl rfl rfl .all (R.assign .c) ?_
      refine At.nil ?_
      refine At.tN ?_
      refine At.ret ?_
      exact At.final rfl (.t rfl) (List.nil_sublist _) (⟨congrArg Value.bool (by (symm; apply decide_eq_true; exact take_eq_all hi1 hi2 hi3 (by omega))), rfl, rfl⟩)

theorem c_SameItems {u v : Value} {a b : List Itm} : Fn Try.prog 22 [u, v] [rdE iK u a, rdE iK v b] [] (IsV (.bool (decide (a = b)))) := by
  refine Fn.enter Try.func22 (by kernel_rfl) rfl (n := 26) rfl rfl (fun w => ?_)
  refine At.len (v := u) (by (exact rS M0)) (fun hl1 => ?_)
  refine At.len (v := v) (by (exact rS M1)) (fun hl2 => ?_)
  refine At.seq ?_
  refine At.plain [(false, 0)] rfl ?_
  refine At.e rfl rfl rfl rfl .all (R.assign .c) ?_
  refine At.nil ?_
  refine At.tN ?_
  refine At.seq ?_
  refine At.seq ?_
  refine At.plain [(false, 0), (false, 1), (false, 2), (false, 3), (false, 4)] rfl ?_
  refine At.e rfl rfl rfl rfl .all (R.move (.t rfl)) ?_
  refine At.e rfl rfl rfl rfl .all (R.lenRd Try.underlying22 (.t rfl) (by (exact rS M0))) ?_
  refine At.e rfl rfl rfl rfl .all (R.move (.t rfl)) ?_
  refine At.e rfl rfl rfl rfl .all (R.lenRd Try.underlying22 (.t rfl) (by (exact rS M1))) ?_
  refine At.e rfl rfl rfl rfl .all (R.neq (.t rfl) (.t rfl)) ?_
  refine At.nil ?_
  refine At.tN ?_
  refine At.condN (.t rfl) (fun c1 => ?_) (fun c1 => ?_)
  · have c1n : a.length ≠ b.length := by omega
    refine At.seq ?_
    refine At.plain [(false, 0)] rfl ?_
    refine At.e rfl rfl rfl rfl .all (R.assign .c) ?_
    refine At.nil ?_
    refine At.tN ?_
    refine At.ret ?_
    refine At.tR ?_
    exact At.final rfl (.t rfl) (List.nil_sublist _) (⟨congrArg Value.bool (by (symm; apply decide_eq_false; (intro e; subst e; omega))), rfl, rfl⟩)
  · have c1n : a.length = b.length := by omega
    refine At.skip ?_
    refine At.tN ?_
    refine At.seq ?_
    refine At.seq ?_
    refine At.plain [(false, 0)] rfl ?_
    refine At.e rfl rfl rfl rfl .all (R.assign .c) ?_
    refine At.nil ?_
    refine At.tN ?_
    refine At.block ?_
    refine At.loop1 (fun (i : Nat) => i ≤ a.length ∧ a.length = b.length ∧ a.take i = b.take i) (fun (i : Nat) => a.length - i) (fun (i : Nat) => [(0, true, u), (1, true, v), (5, true, .int .i64 i)]) (fun (i : Nat) => []) (fun (i : Nat) => []) (0) ⟨Nat.zero_le _, by omega, by simp⟩ (.cons rfl (.cons rfl (.cons rfl .nil))) (by ((repeat (first | exact List.Sublist.refl _ | exact List.nil_sublist _ | apply List.Sublist.cons_cons | apply List.Sublist.cons)))) rfl (fun i hi => ?_)
    obtain ⟨hi1, hi2, hi3⟩ := hi
    refine At.seq ?_
    refine At.seq ?_
    refine At.plain [(false, 0), (false, 1), (false, 2), (false, 3)] rfl ?_
    refine At.e rfl rfl rfl rfl .all (R.move (.t rfl)) ?_
    refine At.e rfl rfl rfl rfl .all (R.move (.t rfl)) ?_
    refine At.e rfl rfl rfl rfl .all (R.lenRd Try.underlying22 (.t rfl) (by (exact rS M0))) ?_
    refine At.e rfl rfl rfl rfl .all (R.lss (.t rfl) (.t rfl)) ?_
    refine At.nil ?_
    refine At.tN ?_
    refine At.condD (.t rfl) (fun c2 => ?_) (fun c2 => ?_)
    · skip
      refine At.skip ?_
      refine At.tN ?_
      refine At.seq ?_
      refine At.block ?_
      refine At.seq ?_
      refine At.drawK [(true, 0), (true, 1), (true, 2), (true, 3), (true, 4), (true, 5), (true, 6), (true, 7), (true, 8)] (by kernel_rfl) (by kernel_rfl) ?_
      refine At.s rfl rfl rfl rfl (Cl.kept fun _ h => h) (R.move (.t rfl)) ?_
      refine At.s rfl rfl rfl rfl (Cl.kept fun _ h => h) (R.move (.t rfl)) ?_
      refine At.s rfl rfl rfl rfl (Cl.kept fun _ h => h) (R.indexRd Try.underlying22 sz_43 (.t rfl) (by (exact rK M0)) (.t rfl) (fun hg => (by omega))) ?_
      refine At.s rfl rfl rfl rfl (Cl.kept fun _ h => h) (R.loadRdAgg (us := iK.enc _) Try.underlying43 rfl sz_43 (.t rfl) (by (exact rK M0)) (fun hg => (by omega)) (fun hg => by exact Ek.getA (by omega))) ?_
      refine At.s rfl rfl rfl rfl (Cl.kept fun _ h => h) (R.move (.t rfl)) ?_
      refine At.s rfl rfl rfl rfl (Cl.kept fun _ h => h) (R.move (.t rfl)) ?_
      refine At.s rfl rfl rfl rfl (Cl.kept fun _ h => h) (R.indexRd Try.underlying22 sz_43 (.t rfl) (by (exact rK M1)) (.t rfl) (fun hg => (by omega))) ?_
      refine At.s rfl rfl rfl rfl (Cl.kept fun _ h => h) (R.loadRdAgg (us := iK.enc _) Try.underlying43 rfl sz_43 (.t rfl) (by (exact rK M1)) (fun hg => (by omega)) (fun hg => by exact Ek.getA (by omega))) ?_
      refine At.s rfl rfl rfl rfl (Cl.kept fun _ h => h) (R.as (R.neqS fq_43 (.t rfl) (.t rfl) rfl) (fun _ => congrArg (fun b => Value.bool (!b)) iK_eqb)) ?_
      refine At.nil ?_
      refine At.tN ?_
      refine At.condN (.t rfl) (fun c3 => ?_) (fun c3 => ?_)
      · skip
        refine At.seq ?_
        refine At.plain [(false, 0)] rfl ?_
        refine At.e rfl rfl rfl rfl .all (R.assign .c) ?_
        refine At.nil ?_
        refine At.tN ?_
        refine At.ret ?_
        refine At.bR ?_
        refine At.tR ?_
        refine At.tR ?_
        refine At.bR ?_
        refine At.tR ?_
        exact At.final rfl (.t rfl) (List.nil_sublist _) (⟨congrArg Value.bool (by (symm; apply decide_eq_false; (intro e; subst e; contradiction))), rfl, rfl⟩)
      · skip
        refine At.skip ?_
        refine At.bN ?_
        refine At.tN ?_
        refine At.plain [(false, 0), (false, 1), (false, 2)] rfl ?_
        refine At.e rfl rfl rfl rfl .all (R.move (.t rfl)) ?_
        refine At.e rfl rfl rfl rfl .all (R.addI (.t rfl) .c (fun hg => by omega)) ?_
        refine At.e rfl rfl rfl rfl .all (R.assign (.t rfl)) ?_
        refine At.nil ?_
        refine At.tN ?_
        exact At.again1 (i + 1) ⟨by omega, by omega, take_step hi2 hi3 (by omega) (by simpa using c3)⟩ (by omega) (.cons rfl (.cons rfl (.cons rfl .nil))) (by ((repeat (first | exact List.Sublist.refl _ | exact List.nil_sublist _ | apply List.Sublist.cons_cons | apply List.Sublist.cons)))) rfl
    · skip
      refine At.exit ?_
      refine At.tE ?_
      refine At.tE ?_
      refine At.bE ?_
      refine At.tN ?_
      refine At.seq ?_
      refine At.plain [(false, 0)] rfl ?_
      refine At.e rfl rfl rfl rfl .all (R.assign .c) ?_
      refine At.nil ?_
      refine At.tN ?_
      refine At.ret ?_
      exact At.final rfl (.t rfl) (List.nil_sublist _) (⟨congrArg Value.bool (by (symm; apply decide_eq_true; exact take_eq_all hi1 hi2 hi3 (by omega))), rfl, rfl⟩)

theorem c_rSort {u : Value} {l : List Itm} (hL : l.length ≤ 1000) : Fn Try.prog 16 [u] [rdE iK u l] [] (IsR iK 43 (sortF l)) := by
  refine Fn.enter Try.func16 (by kernel_rfl) rfl (n := 75) rfl rfl (fun w => ?_)
  refine At.len (v := u) (by (exact rS M0)) (fun hl1 => ?_)
  refine At.seq ?_
  refine At.plain [(false, 0)] rfl ?_
  refine At.e rfl rfl rfl rfl .all (R.assign .c) ?_
  refine At.nil ?_
  refine At.tN ?_
  refine At.seq ?_
  refine At.plain [(false, 0)] rfl ?_
  refine At.e rfl rfl rfl rfl .all (R.assign .c) ?_
  refine At.nil ?_
  refine At.tN ?_
  refine At.seq ?_
  refine At.seq ?_
  refine At.plain [(false, 0)] rfl ?_
  refine At.e rfl rfl rfl rfl .all (R.assign .c) ?_
  refine At.nil ?_
  refine At.tN ?_
  refine At.block ?_
  refine At.nilRow iK 43 ?_
  refine At.loop3 (fun (i : Nat) (out : List Itm) (v : Value) => i ≤ l.length ∧ out = sortF (l.take i) ∧ out.length = i) (fun (i : Nat) (out : List Itm) (v : Value) => l.length - i) (fun (i : Nat) (out : List Itm) (v : Value) => [(0, true, u), (3, true, v), (4, true, .int .i64 i)]) (fun (i : Nat) (out : List Itm) (v : Value) => [rowE iK 43 v out]) (fun (i : Nat) (out : List Itm) (v : Value) => []) (0) ([]) (.slice none 0 0) ⟨Nat.zero_le _, by simp [sortF], rfl⟩ (.cons rfl (.cons rfl (.cons rfl .nil))) (by ((repeat (first | exact List.Sublist.refl _ | exact List.nil_sublist _ | apply List.Sublist.cons_cons | apply List.Sublist.cons)))) rfl (fun i out v hi => ?_)
  obtain ⟨hi1, hi2, hi3⟩ := hi
  refine At.seq ?_
  refine At.seq ?_
  refine At.plain [(false, 0), (false, 1), (false, 2), (false, 3)] rfl ?_
  refine At.e rfl rfl rfl rfl .all (R.move (.t rfl)) ?_
  refine At.e rfl rfl rfl rfl .all (R.move (.t rfl)) ?_
  refine At.e rfl rfl rfl rfl .all (R.lenRd Try.underlying22 (.t rfl) (by (exact rS M0))) ?_
  refine At.e rfl rfl rfl rfl .all (R.lss (.t rfl) (.t rfl)) ?_
  refine At.nil ?_
  refine At.tN ?_
  refine At.condD (.t rfl) (fun c1 => ?_) (fun c1 => ?_)
  · skip
    refine At.skip ?_
    refine At.tN ?_
    refine At.seq ?_
    refine At.block ?_
    refine At.seq ?_
    refine At.plain [(false, 0), (false, 1), (false, 2)] rfl ?_
    refine At.e rfl rfl rfl rfl .all (R.move (.t rfl)) ?_
    refine At.e rfl rfl rfl rfl .all (R.lenRd Try.underlying22 (.t rfl) (by (exact wS M1))) ?_
    refine At.e rfl rfl rfl rfl .all (R.assign (.t rfl)) ?_
    refine At.nil ?_
    refine At.tN ?_
    refine At.seq ?_
    refine At.block ?_
    refine At.loop1 (fun (k : Nat) => k ≤ out.length ∧ posF out (gE l i) out.length = posF out (gE l i) k) (fun (k : Nat) => k) (fun (k : Nat) => [(0, true, u), (3, true, v), (4, true, .int .i64 i), (5, true, .int .i64 k)]) (fun (k : Nat) => [rowE iK 43 v out]) (fun (k : Nat) => []) (out.length) ⟨Nat.le_refl _, rfl⟩ (.cons rfl (.cons rfl (.cons rfl (.cons rfl .nil)))) (by ((repeat (first | exact List.Sublist.refl _ | exact List.nil_sublist _ | apply List.Sublist.cons_cons | apply List.Sublist.cons)))) rfl (fun k hi => ?_)
    obtain ⟨hk1, hk2⟩ := hi
    refine At.seq ?_
    refine At.seq ?_
    refine At.drawK [(true, 0), (true, 1), (true, 2), (true, 3), (true, 4), (true, 5), (true, 6), (true, 7), (true, 8), (true, 9), (true, 10), (true, 11), (true, 12), (true, 13), (true, 14), (true, 15), (true, 16), (true, 17), (true, 18), (true, 19), (true, 20), (true, 21), (true, 22), (true, 23), (true, 24), (true, 25), (true, 26), (true, 27), (true, 28), (true, 29), (true, 30), (true, 31), (true, 32), (true, 33), (true, 34), (true, 35), (true, 36), (true, 37), (true, 38), (true, 39), (true, 40), (true, 41), (true, 42), (true, 43)] (by kernel_rfl) (by kernel_rfl) ?_
    refine At.s rfl rfl rfl rfl (Cl.kept fun _ h => h) (R.move (.t rfl)) ?_
    refine At.s rfl rfl rfl rfl (Cl.kept fun _ h => h) (R.gtr (.t rfl) .c) ?_
    refine At.s rfl rfl rfl rfl (Cl.kept fun _ h => h) (R.move (.t rfl)) ?_
    refine At.s rfl rfl rfl rfl (Cl.kept fun _ h => h) (R.move (by exact .t rfl)) ?_
    refine At.s rfl rfl rfl rfl (Cl.kept fun _ h => h) (R.move (by exact .t rfl)) ?_
    refine At.s rfl rfl rfl rfl (Cl.kept fun _ h => h) (R.subI (by exact .s rfl) .c (fun hg => by omega)) ?_
    refine At.s rfl rfl rfl rfl (Cl.kept fun _ h => h) (R.indexRd Try.underlying22 sz_43 (by exact .s rfl) (by (exact wK M1)) (by exact .s rfl) (fun hg => (by ((simp [-List.length_eq_zero_iff] at hg; omega))))) ?_
    refine At.s rfl rfl rfl rfl (Cl.kept fun _ h => h) (R.fieldRd fo_43_0 (by exact .s rfl) (by (exact wK M1)) (fun hg => (by ((simp [-List.length_eq_zero_iff] at hg; omega))))) ?_
    refine At.s rfl rfl rfl rfl (Cl.kept fun _ h => h) (R.loadRd Try.underlying3 rfl (by exact .s rfl) (by (exact wK M1)) (fun hg => by exact Ek.getN rfl (by ((simp [-List.length_eq_zero_iff] at hg; omega))))) ?_
    refine At.s rfl rfl rfl rfl (Cl.kept fun _ h => h) (R.move (by exact .t rfl)) ?_
    refine At.s rfl rfl rfl rfl (Cl.kept fun _ h => h) (R.move (by exact .t rfl)) ?_
    refine At.s rfl rfl rfl rfl (Cl.kept fun _ h => h) (R.indexRd Try.underlying22 sz_43 (by exact .s rfl) (by (exact rK M0)) (by exact .s rfl) (fun hg => (by omega))) ?_
    refine At.s rfl rfl rfl rfl (Cl.kept fun _ h => h) (R.fieldRd fo_43_0 (by exact .s rfl) (by (exact rK M0)) (fun hg => (by omega))) ?_
    refine At.s rfl rfl rfl rfl (Cl.kept fun _ h => h) (R.loadRd Try.underlying3 rfl (by exact .s rfl) (by (exact rK M0)) (fun hg => by exact Ek.getN rfl (by omega))) ?_
    refine At.s rfl rfl rfl rfl (Cl.kept fun _ h => h) (R.gtr (by exact .s rfl) (by exact .s rfl)) ?_
    refine At.s rfl rfl rfl rfl (Cl.kept fun _ h => h) (R.move (by exact .s rfl)) ?_
    refine At.s rfl rfl rfl rfl (Cl.kept fun _ h => h) (R.move (by exact .t rfl)) ?_
    refine At.s rfl rfl rfl rfl (Cl.kept fun _ h => h) (R.move (by exact .t rfl)) ?_
    refine At.s rfl rfl rfl rfl (Cl.kept fun _ h => h) (R.subI (by exact .s rfl) .c (fun hg => by omega)) ?_
    refine At.s rfl rfl rfl rfl (Cl.kept fun _ h => h) (R.indexRd Try.underlying22 sz_43 (by exact .s rfl) (by (exact wK M1)) (by exact .s rfl) (fun hg => (by ((simp [-List.length_eq_zero_iff] at hg; omega))))) ?_
    refine At.s rfl rfl rfl rfl (Cl.kept fun _ h => h) (R.fieldRd fo_43_0 (by exact .s rfl) (by (exact wK M1)) (fun hg => (by ((simp [-List.length_eq_zero_iff] at hg; omega))))) ?_
    refine At.s rfl rfl rfl rfl (Cl.kept fun _ h => h) (R.loadRd Try.underlying3 rfl (by exact .s rfl) (by (exact wK M1)) (fun hg => by exact Ek.getN rfl (by ((simp [-List.length_eq_zero_iff] at hg; omega))))) ?_
    refine At.s rfl rfl rfl rfl (Cl.kept fun _ h => h) (R.move (by exact .t rfl)) ?_
    refine At.s rfl rfl rfl rfl (Cl.kept fun _ h => h) (R.move (by exact .t rfl)) ?_
    refine At.s rfl rfl rfl rfl (Cl.kept fun _ h => h) (R.indexRd Try.underlying22 sz_43 (by exact .s rfl) (by (exact rK M0)) (by exact .s rfl) (fun hg => (by omega))) ?_
    refine At.s rfl rfl rfl rfl (Cl.kept fun _ h => h) (R.fieldRd fo_43_0 (by exact .s rfl) (by (exact rK M0)) (fun hg => (by omega))) ?_
    refine At.s rfl rfl rfl rfl (Cl.kept fun _ h => h) (R.loadRd Try.underlying3 rfl (by exact .s rfl) (by (exact rK M0)) (fun hg => by exact Ek.getN rfl (by omega))) ?_
    refine At.s rfl rfl rfl rfl (Cl.kept fun _ h => h) (R.eql (by exact .s rfl) (by exact .s rfl)) ?_
    refine At.s rfl rfl rfl rfl (Cl.kept fun _ h => h) (R.move (by exact .s rfl)) ?_
    refine At.s rfl rfl rfl rfl (Cl.kept fun _ h => h) (R.move (by exact .t rfl)) ?_
    refine At.s rfl rfl rfl rfl (Cl.kept fun _ h => h) (R.move (by exact .t rfl)) ?_
    refine At.s rfl rfl rfl rfl (Cl.kept fun _ h => h) (R.subI (by exact .s rfl) .c (fun hg => by omega)) ?_
    refine At.s rfl rfl rfl rfl (Cl.kept fun _ h => h) (R.indexRd Try.underlying22 sz_43 (by exact .s rfl) (by (exact wK M1)) (by exact .s rfl) (fun hg => (by ((simp [-List.length_eq_zero_iff] at hg; omega))))) ?_
    refine At.s rfl rfl rfl rfl (Cl.kept fun _ h => h) (R.fieldRd fo_43_1 (by exact .s rfl) (by (exact wK M1)) (fun hg => (by ((simp [-List.length_eq_zero_iff] at hg; omega))))) ?_
    refine At.s rfl rfl rfl rfl (Cl.kept fun _ h => h) (R.loadRd Try.underlying3 rfl (by exact .s rfl) (by (exact wK M1)) (fun hg => by exact Ek.getN rfl (by ((simp [-List.length_eq_zero_iff] at hg; omega))))) ?_
    refine At.s rfl rfl rfl rfl (Cl.kept fun _ h => h) (R.move (by exact .t rfl)) ?_
    refine At.s rfl rfl rfl rfl (Cl.kept fun _ h => h) (R.move (by exact .t rfl)) ?_
    refine At.s rfl rfl rfl rfl (Cl.kept fun _ h => h) (R.indexRd Try.underlying22 sz_43 (by exact .s rfl) (by (exact rK M0)) (by exact .s rfl) (fun hg => (by omega))) ?_
    refine At.s rfl rfl rfl rfl (Cl.kept fun _ h => h) (R.fieldRd fo_43_1 (by exact .s rfl) (by (exact rK M0)) (fun hg => (by omega))) ?_
    refine At.s rfl rfl rfl rfl (Cl.kept fun _ h => h) (R.loadRd Try.underlying3 rfl (by exact .s rfl) (by (exact rK M0)) (fun hg => by exact Ek.getN rfl (by omega))) ?_
    refine At.s rfl rfl rfl rfl (Cl.kept fun _ h => h) (R.gtr (by exact .s rfl) (by exact .s rfl)) ?_
    refine At.s rfl rfl rfl rfl (Cl.kept fun _ h => h) (R.pickAnd (by exact .s rfl) rfl (by simp_all)) ?_
    refine At.s rfl rfl rfl rfl (Cl.kept fun _ h => h) (R.pickOr (by exact .s rfl) rfl (by simp_all)) ?_
    refine At.s rfl rfl rfl rfl (Cl.kept fun _ h => h) (R.pickAnd (.t rfl) rfl (by simp_all)) ?_
    refine At.nil ?_
    refine At.tN ?_
    refine At.cond (.t rfl) (fun c2 => ?_) (fun c2 => ?_)
    · skip
      refine At.skip ?_
      refine At.tN ?_
      refine At.block ?_
      refine At.plain [(false, 0), (false, 1), (false, 2)] rfl ?_
      refine At.e rfl rfl rfl rfl .all (R.move (.t rfl)) ?_
      refine At.e rfl rfl rfl rfl .all (R.subI (.t rfl) .c (fun hg => by omega)) ?_
      refine At.e rfl rfl rfl rfl .all (R.assign (.t rfl)) ?_
      refine At.nil ?_
      refine At.bN ?_
      have c3 := c2; have hk0 : 0 < k := by simp at c3; omega
      refine At.tN ?_
      exact At.again1 (k - 1) ⟨by omega, hk2.trans (posF_down hk0 hk1 (by simpa [hk0] using c2))⟩ (by omega) (.cons rfl (.cons rfl (.cons rfl (.cons (congrArg (fun z => some (true, Value.int .i64 z)) (by omega)) .nil)))) (by ((repeat (first | exact List.Sublist.refl _ | exact List.nil_sublist _ | apply List.Sublist.cons_cons | apply List.Sublist.cons)))) rfl
    · skip
      refine At.exit ?_
      refine At.tE ?_
      refine At.tE ?_
      refine At.bE ?_
      refine At.tN ?_
      refine At.draw2 [(true, 0), (true, 1), (true, 2), (true, 4), (true, 5), (true, 6), (true, 7), (true, 10), (true, 11), (true, 12)] 3 8 [(false, 8), (false, 9), (false, 13), (true, 14)] [(false, 3), (false, 9), (false, 13), (true, 14)] (by kernel_rfl) (by kernel_rfl) ?_
      refine At.s rfl rfl rfl rfl (Cl.kept fun _ h => h) (R.move (.t rfl)) ?_
      refine At.s rfl rfl rfl rfl (Cl.kept fun _ h => h) (R.move (.t rfl)) ?_
      refine At.s rfl rfl rfl rfl (Cl.kept fun _ h => h) (R.sliceRd Try.underlying22 sz_43 (.t rfl) (by (exact wK M1)) rfl (.t rfl) (fun hg => (by omega))) ?_
      refine At.s rfl rfl rfl rfl (Cl.kept fun _ h => h) (R.move (.t rfl)) ?_
      refine At.s rfl rfl rfl rfl (Cl.kept fun _ h => h) (R.move (.t rfl)) ?_
      refine At.s rfl rfl rfl rfl (Cl.kept fun _ h => h) (R.indexRd Try.underlying22 sz_43 (.t rfl) (by (exact rK M0)) (.t rfl) (fun hg => (by omega))) ?_
      refine At.s rfl rfl rfl rfl (Cl.kept fun _ h => h) (R.loadRdAgg (us := iK.enc _) Try.underlying43 rfl sz_43 (.t rfl) (by (exact rK M0)) (fun hg => (by omega)) (fun hg => by exact Ek.getA (by omega))) ?_
      refine At.s rfl rfl rfl rfl (Cl.kept fun _ h => h) (R.move (.t rfl)) ?_
      refine At.s rfl rfl rfl rfl (Cl.kept fun _ h => h) (R.move (.t rfl)) ?_
      refine At.s rfl rfl rfl rfl (Cl.kept fun _ h => h) (R.sliceRd Try.underlying22 sz_43 (.t rfl) (by (exact wK M1)) (.t rfl) rfl (fun hg => (by omega))) ?_
      refine At.nil ?_
      refine At.join2 (β := Value) (fun x => [(0, true, u), (3, true, x), (4, true, .int .i64 i)]) (fun x => [rowE iK 43 x (insF out (gE l i))]) (fun x => ?_) (fun hj => ?_) (fun hj => ?_)
      · have hx := True.intro
        refine At.bN ?_
        refine At.tN ?_
        refine At.plain [(false, 0), (false, 1), (false, 2)] rfl ?_
        refine At.e rfl rfl rfl rfl .all (R.move (.t rfl)) ?_
        refine At.e rfl rfl rfl rfl .all (R.addI (.t rfl) .c (fun hg => by omega)) ?_
        refine At.e rfl rfl rfl rfl .all (R.assign (.t rfl)) ?_
        refine At.nil ?_
        refine At.tN ?_
        exact At.again3 (i + 1) (insF out (gE l i)) (x) ⟨by omega, by rw [hi2, sortF_step (by omega)], by rw [insF_length, hi3]⟩ (by omega) (.cons rfl (.cons rfl (.cons rfl .nil))) (by ((repeat (first | exact List.Sublist.refl _ | exact List.nil_sublist _ | apply List.Sublist.cons_cons | apply List.Sublist.cons)))) rfl
      · skip
        (refine At.nilRow iK 43 ?_; refine At.app (k := iK) rfl rfl rfl Try.underlying22 et_43 .c (.t rfl) (fun _ => by (exact U0)) (RdIn.cutE (k := iK) (by (exact wS M2)) _ _ (by omega) (by omega)) (by (simp <;> omega)) (fun v1 => ⟨(Cl.kept (by (exact keepOf (by ((repeat (first | exact List.Sublist.refl _ | exact List.nil_sublist _ | apply List.Sublist.cons_cons | apply List.Sublist.cons))))))), ?_⟩))
        refine At.lit (k := iK) rfl rfl rfl Try.underlying22 et_43 (.cons (.t rfl) .nil) (.cons rfl .nil) rfl rfl rfl (fun v2 => ⟨(Cl.kept (by (exact keepOf (by ((repeat (first | exact List.Sublist.refl _ | exact List.nil_sublist _ | apply List.Sublist.cons_cons | apply List.Sublist.cons))))))), ?_⟩)
        refine At.app (k := iK) rfl rfl rfl Try.underlying22 et_43 (.t rfl) (.t rfl) (fun _ => by (exact U1)) (by (exact wS M1)) (by (simp <;> omega)) (fun v3 => ⟨(Cl.kept (by (exact keepOf (by ((repeat (first | exact List.Sublist.refl _ | exact List.nil_sublist _ | apply List.Sublist.cons_cons | apply List.Sublist.cons))))))), ?_⟩)
        refine At.app (k := iK) rfl rfl rfl Try.underlying22 et_43 (.t rfl) (.t rfl) (fun _ => by (exact U1)) (RdIn.cutE (k := iK) (by (exact wS M3)) _ _ (by omega) (by omega)) (by (simp <;> omega)) (fun v4 => ⟨(Cl.kept (by (exact keepOf (by ((repeat (first | exact List.Sublist.refl _ | exact List.nil_sublist _ | apply List.Sublist.cons_cons | apply List.Sublist.cons))))))), ?_⟩)
        refine At.s rfl rfl rfl rfl (Cl.kept (by (exact keepOf (by ((repeat (first | exact List.Sublist.refl _ | exact List.nil_sublist _ | apply List.Sublist.cons_cons | apply List.Sublist.cons))))))) (R.assign (.t rfl)) ?_
        refine At.nil ?_
        refine At.reRow (v := v4) (xs' := insF out (gE l i)) (by (exact U1)) (insF_of hk1 (hk2.trans (posF_stop (by simpa [gtI] using c2)))) ?_
        exact hj v4 _ _ (Sub.look (.cons rfl (.cons rfl (.cons rfl .nil)))) (by ((repeat (first | exact List.Sublist.refl _ | exact List.nil_sublist _ | apply List.Sublist.cons_cons | apply List.Sublist.cons))))
      · skip
        refine At.lit (k := iK) rfl rfl rfl Try.underlying22 et_43 (.cons (.t rfl) .nil) (.cons rfl .nil) rfl rfl rfl (fun v5 => ⟨(Cl.kept (by (exact keepOf (by ((repeat (first | exact List.Sublist.refl _ | exact List.nil_sublist _ | apply List.Sublist.cons_cons | apply List.Sublist.cons))))))), ?_⟩)
        (refine At.nilRow iK 43 ?_; refine At.app (k := iK) rfl rfl rfl Try.underlying22 et_43 .c (.t rfl) (fun _ => by (exact U0)) (RdIn.cutE (k := iK) (by (exact wS M3)) _ _ (by omega) (by omega)) (by (simp <;> omega)) (fun v6 => ⟨(Cl.kept (by (exact keepOf (by ((repeat (first | exact List.Sublist.refl _ | exact List.nil_sublist _ | apply List.Sublist.cons_cons | apply List.Sublist.cons))))))), ?_⟩))
        refine At.app (k := iK) rfl rfl rfl Try.underlying22 et_43 (.t rfl) (.t rfl) (fun _ => by (exact U0)) (by (exact wS M2)) (by (simp <;> omega)) (fun v7 => ⟨(Cl.kept (by (exact keepOf (by ((repeat (first | exact List.Sublist.refl _ | exact List.nil_sublist _ | apply List.Sublist.cons_cons | apply List.Sublist.cons))))))), ?_⟩)
        refine At.app (k := iK) rfl rfl rfl Try.underlying22 et_43 (.t rfl) (.t rfl) (fun _ => by (exact U0)) (RdIn.cutE (k := iK) (by (exact wS M3)) _ _ (by omega) (by omega)) (by (simp <;> omega)) (fun v8 => ⟨(Cl.kept (by (exact keepOf (by ((repeat (first | exact List.Sublist.refl _ | exact List.nil_sublist _ | apply List.Sublist.cons_cons | apply List.Sublist.cons))))))), ?_⟩)
        refine At.s rfl rfl rfl rfl (Cl.kept (by (exact keepOf (by ((repeat (first | exact List.Sublist.refl _ | exact List.nil_sublist _ | apply List.Sublist.cons_cons | apply List.Sublist.cons))))))) (R.assign (.t rfl)) ?_
        refine At.nil ?_
        refine At.reRow (v := v8) (xs' := insF out (gE l i)) (by (exact U0)) (insF_of hk1 (hk2.trans (posF_stop (by simpa [gtI] using c2)))) ?_
        exact hj v8 _ _ (Sub.look (.cons rfl (.cons rfl (.cons rfl .nil)))) (by ((repeat (first | exact List.Sublist.refl _ | exact List.nil_sublist _ | apply List.Sublist.cons_cons | apply List.Sublist.cons))))
  · skip
    refine At.exit ?_
    refine At.tE ?_
    refine At.tE ?_
    refine At.bE ?_
    refine At.tN ?_
    refine At.seq ?_
    refine At.plain [(false, 0), (false, 1)] rfl ?_
    refine At.e rfl rfl rfl rfl .all (R.move (.t rfl)) ?_
    refine At.e rfl rfl rfl rfl .all (R.assign (.t rfl)) ?_
    refine At.nil ?_
    refine At.tN ?_
    refine At.ret ?_
    exact At.final (N' := [rowE iK 43 v out]) rfl (.t rfl) (by ((repeat (first | exact List.Sublist.refl _ | exact List.nil_sublist _ | apply List.Sublist.cons_cons | apply List.Sublist.cons)))) (⟨by rw [hi2, List.take_of_length_le (by omega)], rfl⟩)

theorem c_rLatest {u : Value} {l : List Itm} {key ver : Int} : Fn Try.prog 34 [u, .int .i64 key, .int .i64 ver] [rdE iK u l] [] (IsV (latV l key ver)) := by
  refine Fn.enter Try.func34 (by kernel_rfl) rfl (n := 57) rfl rfl (fun w => ?_)
  refine At.len (v := u) (by (exact rS M0)) (fun hl1 => ?_)
  refine At.seq ?_
  refine At.plain [(false, 0), (false, 1)] rfl ?_
  refine At.alloc rfl rfl rfl ze_43 (fun b1 hb1 => ⟨.all, ?_⟩)
  refine At.e rfl rfl rfl rfl .all (R.assign .c) ?_
  refine At.nil ?_
  refine At.tN ?_
  refine At.seq ?_
  refine At.plain [(false, 0)] rfl ?_
  refine At.e rfl rfl rfl rfl .all (R.assign .c) ?_
  refine At.nil ?_
  refine At.tN ?_
  refine At.seq ?_
  refine At.seq ?_
  refine At.plain [(false, 0)] rfl ?_
  refine At.e rfl rfl rfl rfl .all (R.assign .c) ?_
  refine At.nil ?_
  refine At.tN ?_
  refine At.block ?_
  refine At.loop2 (fun (i : Nat) (b : Int) => i ≤ l.length ∧ ((b = -1 ∧ latF (l.take i) key ver = none) ∨ (0 ≤ b ∧ b < i ∧ latF (l.take i) key ver = some (gE l b)))) (fun (i : Nat) (b : Int) => l.length - i) (fun (i : Nat) (b : Int) => [(0, true, u), (1, true, .int .i64 key), (2, true, .int .i64 ver), (6, true, .pointer (some ⟨b1, 0, none⟩)), (8, true, .int .i64 b), (9, true, .int .i64 i)]) (fun (i : Nat) (b : Int) => [.blk b1 (.cells #[.int .i64 0, .int .i64 0, .int .i64 0] 43)]) (fun (i : Nat) (b : Int) => []) (0) (-1) ⟨Nat.zero_le _, .inl ⟨rfl, rfl⟩⟩ (.cons rfl (.cons rfl (.cons rfl (.cons rfl (.cons rfl (.cons rfl .nil)))))) (by ((repeat (first | exact List.Sublist.refl _ | exact List.nil_sublist _ | apply List.Sublist.cons_cons | apply List.Sublist.cons)))) rfl (fun i b hi => ?_)
  obtain ⟨hi1, hi2⟩ := hi
  refine At.seq ?_
  refine At.seq ?_
  refine At.plain [(false, 0), (false, 1), (false, 2), (false, 3)] rfl ?_
  refine At.e rfl rfl rfl rfl .all (R.move (.t rfl)) ?_
  refine At.e rfl rfl rfl rfl .all (R.move (.t rfl)) ?_
  refine At.e rfl rfl rfl rfl .all (R.lenRd Try.underlying22 (.t rfl) (by (exact rS M0))) ?_
  refine At.e rfl rfl rfl rfl .all (R.lss (.t rfl) (.t rfl)) ?_
  refine At.nil ?_
  refine At.tN ?_
  refine At.condD (.t rfl) (fun c1 => ?_) (fun c1 => ?_)
  · skip
    refine At.skip ?_
    refine At.tN ?_
    refine At.seq ?_
    refine At.block ?_
    refine At.seq ?_
    refine At.drawK [(true, 0), (true, 1), (true, 2), (true, 3), (true, 4), (true, 5), (true, 6), (true, 7), (true, 8), (true, 9), (true, 10), (true, 11), (true, 12), (true, 13), (true, 14), (true, 15), (true, 16), (true, 17), (true, 18), (true, 19), (true, 20), (true, 21), (true, 22), (true, 23), (true, 24), (true, 25), (true, 26), (true, 27), (true, 28), (true, 29), (true, 30), (true, 31), (true, 32)] (by kernel_rfl) (by kernel_rfl) ?_
    refine At.s rfl rfl rfl rfl (Cl.kept fun _ h => h) (R.move (.t rfl)) ?_
    refine At.s rfl rfl rfl rfl (Cl.kept fun _ h => h) (R.move (.t rfl)) ?_
    refine At.s rfl rfl rfl rfl (Cl.kept fun _ h => h) (R.indexRd Try.underlying22 sz_43 (.t rfl) (by (exact rK M0)) (.t rfl) (fun hg => (by omega))) ?_
    refine At.s rfl rfl rfl rfl (Cl.kept fun _ h => h) (R.fieldRd fo_43_0 (.t rfl) (by (exact rK M0)) (fun hg => (by omega))) ?_
    refine At.s rfl rfl rfl rfl (Cl.kept fun _ h => h) (R.loadRd Try.underlying3 rfl (.t rfl) (by (exact rK M0)) (fun hg => by exact Ek.getN rfl (by omega))) ?_
    refine At.s rfl rfl rfl rfl (Cl.kept fun _ h => h) (R.move (.t rfl)) ?_
    refine At.s rfl rfl rfl rfl (Cl.kept fun _ h => h) (R.eql (.t rfl) (.t rfl)) ?_
    refine At.s rfl rfl rfl rfl (Cl.kept fun _ h => h) (R.move (.t rfl)) ?_
    refine At.s rfl rfl rfl rfl (Cl.kept fun _ h => h) (R.move (by exact .t rfl)) ?_
    refine At.s rfl rfl rfl rfl (Cl.kept fun _ h => h) (R.move (by exact .t rfl)) ?_
    refine At.s rfl rfl rfl rfl (Cl.kept fun _ h => h) (R.indexRd Try.underlying22 sz_43 (by exact .s rfl) (by (exact rK M0)) (by exact .s rfl) (fun hg => (by omega))) ?_
    refine At.s rfl rfl rfl rfl (Cl.kept fun _ h => h) (R.fieldRd fo_43_1 (by exact .s rfl) (by (exact rK M0)) (fun hg => (by omega))) ?_
    refine At.s rfl rfl rfl rfl (Cl.kept fun _ h => h) (R.loadRd Try.underlying3 rfl (by exact .s rfl) (by (exact rK M0)) (fun hg => by exact Ek.getN rfl (by omega))) ?_
    refine At.s rfl rfl rfl rfl (Cl.kept fun _ h => h) (R.move (by exact .t rfl)) ?_
    refine At.s rfl rfl rfl rfl (Cl.kept fun _ h => h) (R.leq (by exact .s rfl) (by exact .s rfl)) ?_
    refine At.s rfl rfl rfl rfl (Cl.kept fun _ h => h) (R.pickAnd (.t rfl) rfl (by simp_all)) ?_
    refine At.s rfl rfl rfl rfl (Cl.kept fun _ h => h) (R.move (.t rfl)) ?_
    refine At.s rfl rfl rfl rfl (Cl.kept fun _ h => h) (R.move (by exact .t rfl)) ?_
    refine At.s rfl rfl rfl rfl (Cl.kept fun _ h => h) (R.lss (by exact .s rfl) .c) ?_
    refine At.s rfl rfl rfl rfl (Cl.kept fun _ h => h) (R.move (by exact .s rfl)) ?_
    refine At.s rfl rfl rfl rfl (Cl.kept fun _ h => h) (R.move (by exact .t rfl)) ?_
    refine At.s rfl rfl rfl rfl (Cl.kept fun _ h => h) (R.move (by exact .t rfl)) ?_
    refine At.s rfl rfl rfl rfl (Cl.kept fun _ h => h) (R.indexRd Try.underlying22 sz_43 (by exact .s rfl) (by (exact rK M0)) (by exact .s rfl) (fun hg => (by omega))) ?_
    refine At.s rfl rfl rfl rfl (Cl.kept fun _ h => h) (R.fieldRd fo_43_1 (by exact .s rfl) (by (exact rK M0)) (fun hg => (by omega))) ?_
    refine At.s rfl rfl rfl rfl (Cl.kept fun _ h => h) (R.loadRd Try.underlying3 rfl (by exact .s rfl) (by (exact rK M0)) (fun hg => by exact Ek.getN rfl (by omega))) ?_
    refine At.s rfl rfl rfl rfl (Cl.kept fun _ h => h) (R.move (by exact .t rfl)) ?_
    refine At.s rfl rfl rfl rfl (Cl.kept fun _ h => h) (R.move (by exact .t rfl)) ?_
    refine At.s rfl rfl rfl rfl (Cl.kept fun _ h => h) (R.indexRd Try.underlying22 sz_43 (by exact .s rfl) (by (exact rK M0)) (by exact .s rfl) (fun hg => (by ((simp [-List.length_eq_zero_iff] at hg; omega))))) ?_
    refine At.s rfl rfl rfl rfl (Cl.kept fun _ h => h) (R.fieldRd fo_43_1 (by exact .s rfl) (by (exact rK M0)) (fun hg => (by omega))) ?_
    refine At.s rfl rfl rfl rfl (Cl.kept fun _ h => h) (R.loadRd Try.underlying3 rfl (by exact .s rfl) (by (exact rK M0)) (fun hg => by exact Ek.getN rfl (by ((simp [-List.length_eq_zero_iff] at hg; omega))))) ?_
    refine At.s rfl rfl rfl rfl (Cl.kept fun _ h => h) (R.geq (by exact .s rfl) (by exact .s rfl)) ?_
    refine At.s rfl rfl rfl rfl (Cl.kept fun _ h => h) (R.pickOr (by exact .s rfl) rfl (by simp_all)) ?_
    refine At.s rfl rfl rfl rfl (Cl.kept fun _ h => h) (R.pickAnd (.t rfl) rfl (by simp_all)) ?_
    refine At.nil ?_
    refine At.tN ?_
    refine At.cond (.t rfl) (fun c2 => ?_) (fun c2 => ?_)
    · skip
      refine At.plain [(false, 0), (false, 1)] rfl ?_
      refine At.e rfl rfl rfl rfl .all (R.move (.t rfl)) ?_
      refine At.e rfl rfl rfl rfl .all (R.assign (.t rfl)) ?_
      refine At.nil ?_
      refine At.bN ?_
      refine At.tN ?_
      refine At.plain [(false, 0), (false, 1), (false, 2)] rfl ?_
      refine At.e rfl rfl rfl rfl .all (R.move (.t rfl)) ?_
      refine At.e rfl rfl rfl rfl .all (R.addI (.t rfl) .c (fun hg => by omega)) ?_
      refine At.e rfl rfl rfl rfl .all (R.assign (.t rfl)) ?_
      refine At.nil ?_
      refine At.tN ?_
      exact At.again2 (i + 1) (i) ⟨by omega, .inr ⟨by omega, by omega, latF_yes (by omega) hi2 (by simpa using c2)⟩⟩ (by omega) (.cons rfl (.cons rfl (.cons rfl (.cons rfl (.cons rfl (.cons rfl .nil)))))) (by ((repeat (first | exact List.Sublist.refl _ | exact List.nil_sublist _ | apply List.Sublist.cons_cons | apply List.Sublist.cons)))) rfl
    · skip
      refine At.skip ?_
      refine At.bN ?_
      refine At.tN ?_
      refine At.plain [(false, 0), (false, 1), (false, 2)] rfl ?_
      refine At.e rfl rfl rfl rfl .all (R.move (.t rfl)) ?_
      refine At.e rfl rfl rfl rfl .all (R.addI (.t rfl) .c (fun hg => by omega)) ?_
      refine At.e rfl rfl rfl rfl .all (R.assign (.t rfl)) ?_
      refine At.nil ?_
      refine At.tN ?_
      exact At.again2 (i + 1) (b) ⟨by omega, latF_no (by omega) hi2 (by simpa using c2)⟩ (by omega) (.cons rfl (.cons rfl (.cons rfl (.cons rfl (.cons rfl (.cons rfl .nil)))))) (by ((repeat (first | exact List.Sublist.refl _ | exact List.nil_sublist _ | apply List.Sublist.cons_cons | apply List.Sublist.cons)))) rfl
  · have hfull : l.take i = l := List.take_of_length_le (by omega)
    refine At.exit ?_
    refine At.tE ?_
    refine At.tE ?_
    refine At.bE ?_
    refine At.tN ?_
    refine At.seq ?_
    refine At.seq ?_
    refine At.plain [(false, 0), (false, 1)] rfl ?_
    refine At.e rfl rfl rfl rfl .all (R.move (.t rfl)) ?_
    refine At.e rfl rfl rfl rfl .all (R.lss (.t rfl) .c) ?_
    refine At.nil ?_
    refine At.tN ?_
    refine At.condD (.t rfl) (fun c3 => ?_) (fun c3 => ?_)
    · have hb2 : latF l key ver = none := (by (rcases hi2 with ⟨_, h⟩ | ⟨h, _, _⟩); (rw [hfull] at h; exact h); omega)
      refine At.seq ?_
      refine At.plain [(false, 0), (false, 1), (false, 2)] rfl ?_
      refine At.e rfl rfl rfl rfl .all (R.build bt_43 .nil .nil rfl) ?_
      refine At.stN rfl rfl sz_43 (.t rfl) (.t rfl) rfl rfl rfl (.n U0) ⟨.all, ?_⟩
      refine At.e rfl rfl rfl rfl .all (R.assign .c) ?_
      refine At.nil ?_
      refine At.tN ?_
      refine At.ret ?_
      refine At.tR ?_
      exact At.final2 rfl (.a (vs := [_, _, _]) Try.underlying43 rfl sz_43 rfl (by exact csS M1 ⟨rfl, rfl, rfl, trivial⟩)) (.t rfl) (List.nil_sublist _) (⟨latV_of (by exact hb2), rfl, rfl⟩)
    · have hb4 : 0 ≤ b ∧ b < l.length ∧ latF l key ver = some (gE l b) := (by (rcases hi2 with ⟨h, _⟩ | ⟨h1, h2, h3⟩); omega; exact ⟨h1, by omega, by rw [hfull] at h3; exact h3⟩); obtain ⟨hb5, hb6, hb3⟩ := hb4
      refine At.skip ?_
      refine At.tN ?_
      refine At.seq ?_
      refine At.plain [(false, 0), (false, 1), (false, 2), (false, 3), (false, 4), (false, 5)] rfl ?_
      refine At.e rfl rfl rfl rfl .all (R.move (.t rfl)) ?_
      refine At.e rfl rfl rfl rfl .all (R.move (.t rfl)) ?_
      refine At.e rfl rfl rfl rfl .all (R.indexRd Try.underlying22 sz_43 (.t rfl) (by (exact rS M0)) (.t rfl) (fun hg => (by omega))) ?_
      refine At.e rfl rfl rfl rfl .all (R.loadRdAgg (us := iK.enc _) Try.underlying43 rfl sz_43 (.t rfl) (by (exact rS M0)) (fun hg => (by omega)) (fun hg => by exact Ek.getA (by omega))) ?_
      refine At.stN rfl rfl sz_43 (.t rfl) (.t rfl) rfl rfl rfl (.n U0) ⟨.all, ?_⟩
      refine At.e rfl rfl rfl rfl .all (R.assign .c) ?_
      refine At.nil ?_
      refine At.tN ?_
      refine At.ret ?_
      exact At.final2 rfl (.a (vs := [_, _, _]) Try.underlying43 rfl sz_43 rfl (by exact csS M1 ⟨rfl, rfl, rfl, trivial⟩)) (.t rfl) (List.nil_sublist _) (⟨latV_of (by exact hb3), rfl, rfl⟩)

theorem c_rKeys {u : Value} {l : List Itm} (hL : l.length ≤ 1000) : Fn Try.prog 38 [u] [rdE iK u l] [] (IsR zK 3 (keysF (sortF l))) := by
  refine Fn.enter Try.func38 (by kernel_rfl) rfl (n := 40) rfl rfl (fun w => ?_)
  refine At.len (v := u) (by (exact rS M0)) (fun hl1 => ?_)
  refine At.seq ?_
  refine At.plain [(false, 0)] rfl ?_
  refine At.e rfl rfl rfl rfl .all (R.assign .c) ?_
  refine At.nil ?_
  refine At.tN ?_
  refine At.seq ?_
  refine At.plain [(false, 0), (false, 1), (false, 2)] rfl ?_
  refine At.e rfl rfl rfl rfl .all (R.move (.t rfl)) ?_
  refine At.callRF rfl rfl rfl (.cons (.t rfl) .nil) (by (exact .cons (by (exact rS M0)) .nil)) (c_rSort (by omega)) (fun v1 => ⟨.all, ?_⟩)
  refine At.e rfl rfl rfl rfl .all (R.assign (.t rfl)) ?_
  refine At.nil ?_
  refine At.tN ?_
  refine At.seq ?_
  refine At.plain [(false, 0)] rfl ?_
  refine At.e rfl rfl rfl rfl .all (R.assign .c) ?_
  refine At.nil ?_
  refine At.tN ?_
  refine At.seq ?_
  refine At.seq ?_
  refine At.plain [(false, 0)] rfl ?_
  refine At.e rfl rfl rfl rfl .all (R.assign .c) ?_
  refine At.nil ?_
  refine At.tN ?_
  refine At.block ?_
  refine At.nilRow zK 3 ?_
  refine At.loop3 (fun (i : Nat) (out : List Int) (v : Value) => i ≤ (sortF l).length ∧ out = keysF ((sortF l).take i) ∧ out.length ≤ i) (fun (i : Nat) (out : List Int) (v : Value) => (sortF l).length - i) (fun (i : Nat) (out : List Int) (v : Value) => [(3, true, v1), (4, true, v), (5, true, .int .i64 i)]) (fun (i : Nat) (out : List Int) (v : Value) => [rowE zK 3 v out, rowE iK 43 v1 (sortF l)]) (fun (i : Nat) (out : List Int) (v : Value) => []) (0) ([]) (.slice none 0 0) ⟨Nat.zero_le _, by simp [keysF], Nat.le_refl _⟩ (.cons rfl (.cons rfl (.cons rfl .nil))) (by ((repeat (first | exact List.Sublist.refl _ | exact List.nil_sublist _ | apply List.Sublist.cons_cons | apply List.Sublist.cons)))) rfl (fun i out v hi => ?_)
  obtain ⟨hi1, hi2, hi3⟩ := hi; have hs := sortF_length l
  refine At.seq ?_
  refine At.seq ?_
  refine At.plain [(false, 0), (false, 1), (false, 2), (false, 3)] rfl ?_
  refine At.e rfl rfl rfl rfl .all (R.move (.t rfl)) ?_
  refine At.e rfl rfl rfl rfl .all (R.move (.t rfl)) ?_
  refine At.e rfl rfl rfl rfl .all (R.lenRd Try.underlying22 (.t rfl) (by (exact wS M2))) ?_
  refine At.e rfl rfl rfl rfl .all (R.lss (.t rfl) (.t rfl)) ?_
  refine At.nil ?_
  refine At.tN ?_
  refine At.condD (.t rfl) (fun c1 => ?_) (fun c1 => ?_)
  · skip
    refine At.skip ?_
    refine At.tN ?_
    refine At.seq ?_
    refine At.block ?_
    refine At.seq ?_
    refine At.drawK [(true, 0), (true, 1), (true, 2), (true, 3), (true, 4), (true, 5), (true, 6), (true, 7), (true, 8), (true, 9), (true, 10), (true, 11), (true, 12), (true, 13), (true, 14), (true, 15), (true, 16)] (by kernel_rfl) (by kernel_rfl) ?_
    refine At.s rfl rfl rfl rfl (Cl.kept fun _ h => h) (R.move (.t rfl)) ?_
    refine At.s rfl rfl rfl rfl (Cl.kept fun _ h => h) (R.lenRd Try.underlying32 (.t rfl) (by (exact wK M1))) ?_
    refine At.s rfl rfl rfl rfl (Cl.kept fun _ h => h) (R.eql (.t rfl) .c) ?_
    refine At.s rfl rfl rfl rfl (Cl.kept fun _ h => h) (R.move (.t rfl)) ?_
    refine At.s rfl rfl rfl rfl (Cl.kept fun _ h => h) (R.move (by exact .t rfl)) ?_
    refine At.s rfl rfl rfl rfl (Cl.kept fun _ h => h) (R.move (by exact .t rfl)) ?_
    refine At.s rfl rfl rfl rfl (Cl.kept fun _ h => h) (R.lenRd Try.underlying32 (by exact .s rfl) (by (exact wK M1))) ?_
    refine At.s rfl rfl rfl rfl (Cl.kept fun _ h => h) (R.subI (by exact .s rfl) .c (fun hg => by omega)) ?_
    refine At.s rfl rfl rfl rfl (Cl.kept fun _ h => h) (R.indexRd Try.underlying32 sz_3 (by exact .s rfl) (by (exact wK M1)) (by exact .s rfl) (fun hg => (by ((simp [-List.length_eq_zero_iff] at hg; omega))))) ?_
    refine At.s rfl rfl rfl rfl (Cl.kept fun _ h => h) (R.loadRd Try.underlying3 rfl (by exact .s rfl) (by (exact wK M1)) (fun hg => by exact Ek.get0 rfl (by ((simp [-List.length_eq_zero_iff] at hg; omega))))) ?_
    refine At.s rfl rfl rfl rfl (Cl.kept fun _ h => h) (R.move (by exact .t rfl)) ?_
    refine At.s rfl rfl rfl rfl (Cl.kept fun _ h => h) (R.move (by exact .t rfl)) ?_
    refine At.s rfl rfl rfl rfl (Cl.kept fun _ h => h) (R.indexRd Try.underlying22 sz_43 (by exact .s rfl) (by (exact wK M2)) (by exact .s rfl) (fun hg => (by omega))) ?_
    refine At.s rfl rfl rfl rfl (Cl.kept fun _ h => h) (R.fieldRd fo_43_0 (by exact .s rfl) (by (exact wK M2)) (fun hg => (by omega))) ?_
    refine At.s rfl rfl rfl rfl (Cl.kept fun _ h => h) (R.loadRd Try.underlying3 rfl (by exact .s rfl) (by (exact wK M2)) (fun hg => by exact Ek.getN rfl (by omega))) ?_
    refine At.s rfl rfl rfl rfl (Cl.kept fun _ h => h) (R.neq (by exact .s rfl) (by exact .s rfl)) ?_
    refine At.s rfl rfl rfl rfl (Cl.kept fun _ h => h) (R.pickOr (.t rfl) rfl (by simp_all)) ?_
    refine At.nil ?_
    refine At.tN ?_
    refine At.cond (.t rfl) (fun c2 => ?_) (fun c2 => ?_)
    · skip
      refine At.plain [(false, 0), (false, 1), (false, 2), (false, 3), (false, 4), (false, 5), (false, 6), (false, 7), (false, 8)] rfl ?_
      refine At.e rfl rfl rfl rfl .all (R.move (.t rfl)) ?_
      refine At.e rfl rfl rfl rfl .all (R.move (.t rfl)) ?_
      refine At.e rfl rfl rfl rfl .all (R.move (.t rfl)) ?_
      refine At.e rfl rfl rfl rfl .all (R.indexRd Try.underlying22 sz_43 (.t rfl) (by (exact wS M2)) (.t rfl) (fun hg => (by omega))) ?_
      refine At.e rfl rfl rfl rfl .all (R.fieldRd fo_43_0 (.t rfl) (by (exact wS M2)) (fun hg => (by omega))) ?_
      refine At.e rfl rfl rfl rfl .all (R.loadRd Try.underlying3 rfl (.t rfl) (by (exact wS M2)) (fun hg => by exact Ek.getN rfl (by omega))) ?_
      refine At.lit (k := zK) rfl rfl rfl Try.underlying32 et_3 (.cons (.t rfl) .nil) (.cons rfl .nil) rfl rfl rfl (fun v2 => ⟨.all, ?_⟩)
      refine At.app (k := zK) rfl rfl rfl Try.underlying32 et_3 (.t rfl) (.t rfl) (fun _ => by (exact U1)) (by (exact wS M1)) (by (simp <;> omega)) (fun v3 => ⟨.all, ?_⟩)
      refine At.e rfl rfl rfl rfl .all (R.assign (.t rfl)) ?_
      refine At.nil ?_
      refine At.bN ?_
      refine At.tN ?_
      refine At.plain [(false, 0), (false, 1), (false, 2)] rfl ?_
      refine At.e rfl rfl rfl rfl .all (R.move (.t rfl)) ?_
      refine At.e rfl rfl rfl rfl .all (R.addI (.t rfl) .c (fun hg => by omega)) ?_
      refine At.e rfl rfl rfl rfl .all (R.assign (.t rfl)) ?_
      refine At.nil ?_
      refine At.tN ?_
      exact At.again3 (i + 1) (out ++ [(gE (sortF l) i).key]) (v3) ⟨by omega, by rw [keysF_step (by omega), ← hi2, keysS_yes (by simpa using c2)], by simp; omega⟩ (by omega) (.cons rfl (.cons rfl (.cons rfl .nil))) (by ((repeat (first | exact List.Sublist.refl _ | exact List.nil_sublist _ | apply List.Sublist.cons_cons | apply List.Sublist.cons)))) rfl
    · skip
      refine At.skip ?_
      refine At.bN ?_
      refine At.tN ?_
      refine At.plain [(false, 0), (false, 1), (false, 2)] rfl ?_
      refine At.e rfl rfl rfl rfl .all (R.move (.t rfl)) ?_
      refine At.e rfl rfl rfl rfl .all (R.addI (.t rfl) .c (fun hg => by omega)) ?_
      refine At.e rfl rfl rfl rfl .all (R.assign (.t rfl)) ?_
      refine At.nil ?_
      refine At.tN ?_
      exact At.again3 (i + 1) (out) (v) ⟨by omega, by rw [keysF_step (by omega), ← hi2, keysS_no (by simpa using c2)], by omega⟩ (by omega) (.cons rfl (.cons rfl (.cons rfl .nil))) (by ((repeat (first | exact List.Sublist.refl _ | exact List.nil_sublist _ | apply List.Sublist.cons_cons | apply List.Sublist.cons)))) rfl
  · skip
    refine At.exit ?_
    refine At.tE ?_
    refine At.tE ?_
    refine At.bE ?_
    refine At.tN ?_
    refine At.seq ?_
    refine At.plain [(false, 0), (false, 1)] rfl ?_
    refine At.e rfl rfl rfl rfl .all (R.move (.t rfl)) ?_
    refine At.e rfl rfl rfl rfl .all (R.assign (.t rfl)) ?_
    refine At.nil ?_
    refine At.tN ?_
    refine At.ret ?_
    exact At.final (N' := [rowE zK 3 v out]) rfl (.t rfl) (by ((repeat (first | exact List.Sublist.refl _ | exact List.nil_sublist _ | apply List.Sublist.cons_cons | apply List.Sublist.cons)))) (⟨by rw [hi2, List.take_of_length_le (by omega)], rfl⟩)

end Go.Proofs.Ytejpanipdjknjaa
