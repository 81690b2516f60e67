/- K2 -/
import Derived.Test.YtejpanipdjknjaaK1
import Derived.Test.YtejpanipdjknjaaEngF
namespace Go.Proofs.Ytejpanipdjknjaa
open Go Go.RowKit
set_option maxRecDepth 10000
set_option linter.unusedVariables false



/-- Which of two numbers is the greater. -/
def cmpZ (a b : Int) : Int := if a < b then -1 else if b < a then 1 else 0
theorem latG_yes {l : List Itm} {key ver : Int} {x : Itm} {t : Bool} {i : Nat} (hi : i < l.length) (h : latF (l.take i) key ver = (if t then some x else none))
    (hc : ((gE l (i : Int)).key = key ∧ (gE l (i : Int)).ver ≤ ver) ∧ (t = false ∨ x.ver ≤ (gE l (i : Int)).ver)) : latF (l.take (i + 1)) key ver = (if true then some (gE l (i : Int)) else none) := by
  rw [latF_step hi, h, if_pos]; rfl
  cases t <;> simp_all [latB]
theorem latG_no {l : List Itm} {key ver : Int} {x : Itm} {t : Bool} {i : Nat} (hi : i < l.length) (h : latF (l.take i) key ver = (if t then some x else none))
    (hc : (gE l (i : Int)).key = key → (gE l (i : Int)).ver ≤ ver → t = true ∧ (gE l (i : Int)).ver < x.ver) : latF (l.take (i + 1)) key ver = (if t then some x else none) := by
  rw [latF_step hi, h, if_neg]
  cases t <;> simp_all [latB]
theorem latV_fin {l : List Itm} {key ver : Int} {x : Itm} {t : Bool} (h : latF l key ver = (if t then some x else none)) (h3 : t = false → x = default) : Value.tuple #[.agg (iK.enc x).toArray, .bool t] = latV l key ver := by
  cases t with
  | true => unfold latV; rw [h]; rfl
  | false => rw [h3 rfl]; unfold latV; rw [h]; rfl
def orZ : List Int → Int
  | [] => 0
  | x :: l => if x = 0 then orZ l else x
def cmpI (x y : Itm) : Int := orZ [cmpZ x.key y.key, cmpZ x.ver y.ver]
theorem orZ_nil {l : List Int} {i : Nat} (h : l.length ≤ i) : orZ (l.drop i) = 0 := by rw [List.drop_eq_nil_of_le h]; rfl
theorem orZ_cons {l : List Int} {i : Nat} (h : i < l.length) : orZ (l.drop i) = if gE l (i : Int) = 0 then orZ (l.drop (i + 1)) else gE l (i : Int) := by
  rw [List.drop_eq_getElem_cons h, orZ]; simp [gE, h]
theorem c_isNaN {a : Int} : Fn Try.prog 58 [.int .i64 a] [] [] (IsV (.bool false)) := by
  refine Fn.enter Try.func58 (by kernel_rfl) rfl (n := 6) rfl rfl (fun w => ?_)
  refine At.seq ?_
  refine At.plain [(false, 0)] rfl ?_
  refine At.e rfl rfl rfl rfl .all (R.assign .c) ?_
  refine At.nil ?_
  refine At.tN ?_
  refine At.seq ?_
  refine At.plain [(false, 0), (false, 1), (false, 2), (false, 3)] rfl ?_
  refine At.e rfl rfl rfl rfl .all (R.move (.t rfl)) ?_
  refine At.e rfl rfl rfl rfl .all (R.move (.t rfl)) ?_
  refine At.e rfl rfl rfl rfl .all (R.as (R.neq (.t rfl) (.t rfl)) (fun _ => congrArg Value.bool (congrArg Bool.not (decide_eq_true (by rfl))))) ?_
  refine At.e rfl rfl rfl rfl .all (R.assign (.t rfl)) ?_
  refine At.nil ?_
  refine At.tN ?_
  refine At.ret ?_
  exact At.final rfl (.t rfl) (List.nil_sublist _) (⟨congrArg Value.bool (by simp), rfl, rfl⟩)

theorem c_Compare {a b : Int} : Fn Try.prog 49 [.int .i64 a, .int .i64 b] [] [] (IsV (.int .i64 (cmpZ a b))) := by
  refine Fn.enter Try.func49 (by kernel_rfl) rfl (n := 20) rfl rfl (fun w => ?_)
  refine At.seq ?_
  refine At.plain [(false, 0)] rfl ?_
  refine At.e rfl rfl rfl rfl .all (R.assign .c) ?_
  refine At.nil ?_
  refine At.tN ?_
  refine At.seq ?_
  refine At.plain [(false, 0), (false, 1), (false, 2)] rfl ?_
  refine At.e rfl rfl rfl rfl .all (R.move (.t rfl)) ?_
  refine At.callVR rfl rfl rfl (.cons (.t rfl) .nil) (by (exact .nil)) (fun hg => c_isNaN) .all ?_
  refine At.e rfl rfl rfl rfl .all (R.assign (.t rfl)) ?_
  refine At.nil ?_
  refine At.tN ?_
  refine At.seq ?_
  refine At.plain [(false, 0), (false, 1), (false, 2)] rfl ?_
  refine At.e rfl rfl rfl rfl .all (R.move (.t rfl)) ?_
  refine At.callVR rfl rfl rfl (.cons (.t rfl) .nil) (by (exact .nil)) (fun hg => c_isNaN) .all ?_
  refine At.e rfl rfl rfl rfl .all (R.assign (.t rfl)) ?_
  refine At.nil ?_
  refine At.tN ?_
  refine At.seq ?_
  refine At.seq ?_
  refine At.plain [(false, 0)] rfl ?_
  refine At.e rfl rfl rfl rfl .all (R.move (.t rfl)) ?_
  refine At.nil ?_
  refine At.tN ?_
  refine At.condF (.t rfl) ?_
  refine At.skip ?_
  refine At.tN ?_
  refine At.seq ?_
  refine At.seq ?_
  refine At.plain [(false, 0)] rfl ?_
  refine At.e rfl rfl rfl rfl .all (R.move (.t rfl)) ?_
  refine At.nil ?_
  refine At.tN ?_
  refine At.condF (.t rfl) ?_
  refine At.skip ?_
  refine At.tN ?_
  refine At.seq ?_
  refine At.seq ?_
  refine At.plain [(false, 0), (false, 1), (false, 2)] rfl ?_
  refine At.e rfl rfl rfl rfl .all (R.move (.t rfl)) ?_
  refine At.e rfl rfl rfl rfl .all (R.move (.t rfl)) ?_
  refine At.e rfl rfl rfl rfl .all (R.lss (.t rfl) (.t rfl)) ?_
  refine At.nil ?_
  refine At.tN ?_
  refine At.condD (.t rfl) (fun c3 => ?_) (fun c3 => ?_)
  · skip
    refine At.seq ?_
    refine At.plain [(false, 0)] rfl ?_
    refine At.e rfl rfl rfl rfl .all (R.assign .c) ?_
    refine At.nil ?_
    refine At.tN ?_
    refine At.ret ?_
    refine At.tR ?_
    exact At.final rfl (.t rfl) (List.nil_sublist _) (⟨congrArg (Value.int .i64) (by unfold cmpZ; rw [if_pos (by omega)]), rfl, rfl⟩)
  · skip
    refine At.skip ?_
    refine At.tN ?_
    refine At.seq ?_
    refine At.seq ?_
    refine At.plain [(false, 0), (false, 1), (false, 2)] rfl ?_
    refine At.e rfl rfl rfl rfl .all (R.move (.t rfl)) ?_
    refine At.e rfl rfl rfl rfl .all (R.move (.t rfl)) ?_
    refine At.e rfl rfl rfl rfl .all (R.gtr (.t rfl) (.t rfl)) ?_
    refine At.nil ?_
    refine At.tN ?_
    refine At.condD (.t rfl) (fun c4 => ?_) (fun c4 => ?_)
    · skip
      refine At.seq ?_
      refine At.plain [(false, 0)] rfl ?_
      refine At.e rfl rfl rfl rfl .all (R.assign .c) ?_
      refine At.nil ?_
      refine At.tN ?_
      refine At.ret ?_
      refine At.tR ?_
      exact At.final rfl (.t rfl) (List.nil_sublist _) (⟨congrArg (Value.int .i64) (by unfold cmpZ; rw [if_neg (by omega), if_pos (by omega)]), rfl, rfl⟩)
    · skip
      refine At.skip ?_
      refine At.tN ?_
      refine At.seq ?_
      refine At.plain [(false, 0)] rfl ?_
      refine At.e rfl rfl rfl rfl .all (R.assign .c) ?_
      refine At.nil ?_
      refine At.tN ?_
      refine At.ret ?_
      exact At.final rfl (.t rfl) (List.nil_sublist _) (⟨congrArg (Value.int .i64) (by unfold cmpZ; rw [if_neg (by omega), if_neg (by omega)]), rfl, rfl⟩)

theorem c_Or {u : Value} {l : List Int} : Fn Try.prog 48 [u] [rdE zK u l] [] (IsV (.int .i64 (orZ l))) := by
  refine Fn.enter Try.func48 (by kernel_rfl) rfl (n := 18) rfl rfl (fun w => ?_)
  refine At.len (v := u) (by (exact rS M0)) (fun hl1 => ?_)
  refine At.seq ?_
  refine At.plain [(false, 0)] rfl ?_
  refine At.e rfl rfl rfl rfl .all (R.assign .c) ?_
  refine At.nil ?_
  refine At.tN ?_
  refine At.seq ?_
  refine At.plain [(false, 0)] rfl ?_
  refine At.e rfl rfl rfl rfl .all (R.assign .c) ?_
  refine At.nil ?_
  refine At.tN ?_
  refine At.seq ?_
  refine At.seq ?_
  refine At.plain [(false, 0), (false, 1), (false, 2)] rfl ?_
  refine At.e rfl rfl rfl rfl .all (R.move (.t rfl)) ?_
  refine At.e rfl rfl rfl rfl .all (R.lenRd Try.underlying32 (.t rfl) (by (exact rS M0))) ?_
  refine At.e rfl rfl rfl rfl .all (R.move .c) ?_
  refine At.nil ?_
  refine At.tN ?_
  refine At.block ?_
  refine At.loop1 (fun (i : Nat) => i ≤ l.length ∧ orZ l = orZ (l.drop i)) (fun (i : Nat) => l.length - i) (fun (i : Nat) => [(3, true, .int .i64 0), (6, true, u), (7, true, .int .i64 l.length), (8, true, .int .i64 i)]) (fun (i : Nat) => []) (fun (i : Nat) => []) (0) ⟨Nat.zero_le _, rfl⟩ (.cons rfl (.cons rfl (.cons rfl (.cons rfl .nil)))) (by ((repeat (first | exact List.Sublist.refl _ | exact List.nil_sublist _ | apply List.Sublist.cons_cons | apply List.Sublist.cons)))) rfl (fun i hi => ?_)
  obtain ⟨hi1, hi2⟩ := hi
  refine At.seq ?_
  refine At.plain [(false, 0)] rfl ?_
  refine At.e rfl rfl rfl rfl .all (R.lss (.t rfl) (.t rfl)) ?_
  refine At.nil ?_
  refine At.tN ?_
  refine At.seq ?_
  refine At.condD (.t rfl) (fun c1 => ?_) (fun c1 => ?_)
  · skip
    refine At.skip ?_
    refine At.tN ?_
    refine At.seq ?_
    refine At.block ?_
    refine At.seq ?_
    refine At.plain [(false, 0), (false, 1), (false, 2)] rfl ?_
    refine At.e rfl rfl rfl rfl .all (R.indexRd Try.underlying32 sz_3 (.t rfl) (by (exact rS M0)) (.t rfl) (fun hg => (by omega))) ?_
    refine At.e rfl rfl rfl rfl .all (R.loadRd Try.underlying3 rfl (.t rfl) (by (exact rS M0)) (fun hg => by exact Ek.get0 rfl (by omega))) ?_
    refine At.e rfl rfl rfl rfl .all (R.assign (.t rfl)) ?_
    refine At.nil ?_
    refine At.tN ?_
    refine At.seq ?_
    refine At.plain [(false, 0), (false, 1), (false, 2)] rfl ?_
    refine At.e rfl rfl rfl rfl .all (R.move (.t rfl)) ?_
    refine At.e rfl rfl rfl rfl .all (R.move (.t rfl)) ?_
    refine At.e rfl rfl rfl rfl .all (R.neq (.t rfl) (.t rfl)) ?_
    refine At.nil ?_
    refine At.tN ?_
    refine At.condN (.t rfl) (fun c2 => ?_) (fun c2 => ?_)
    · skip
      refine At.seq ?_
      refine At.plain [(false, 0), (false, 1)] rfl ?_
      refine At.e rfl rfl rfl rfl .all (R.move (.t rfl)) ?_
      refine At.e rfl rfl rfl rfl .all (R.assign (.t rfl)) ?_
      refine At.nil ?_
      refine At.tN ?_
      refine At.ret ?_
      refine At.bR ?_
      refine At.tR ?_
      refine At.tR ?_
      refine At.bR ?_
      refine At.tR ?_
      exact At.final rfl (.t rfl) (List.nil_sublist _) (⟨congrArg (Value.int .i64) (by (rw [hi2, orZ_cons (by omega), if_neg c2])), rfl, rfl⟩)
    · skip
      refine At.skip ?_
      refine At.bN ?_
      refine At.tN ?_
      refine At.plain [(false, 0), (false, 1)] rfl ?_
      refine At.e rfl rfl rfl rfl .all (R.addI (.t rfl) .c (fun hg => by omega)) ?_
      refine At.e rfl rfl rfl rfl .all (R.move (.t rfl)) ?_
      refine At.nil ?_
      refine At.tN ?_
      exact At.again1 (i + 1) ⟨by omega, by rw [hi2, orZ_cons (by omega), if_pos c2]⟩ (by omega) (.cons rfl (.cons rfl (.cons rfl (.cons rfl .nil)))) (by ((repeat (first | exact List.Sublist.refl _ | exact List.nil_sublist _ | apply List.Sublist.cons_cons | apply List.Sublist.cons)))) rfl
  · skip
    refine At.exit ?_
    refine At.tE ?_
    refine At.tE ?_
    refine At.bE ?_
    refine At.tN ?_
    refine At.seq ?_
    refine At.plain [(false, 0), (false, 1)] rfl ?_
    refine At.e rfl rfl rfl rfl .all (R.move (.t rfl)) ?_
    refine At.e rfl rfl rfl rfl .all (R.assign (.t rfl)) ?_
    refine At.nil ?_
    refine At.tN ?_
    refine At.ret ?_
    exact At.final rfl (.t rfl) (List.nil_sublist _) (⟨congrArg (Value.int .i64) (by (rw [hi2, orZ_nil (by omega)])), rfl, rfl⟩)

theorem c_cmpI {x y : Itm} : Fn Try.prog 47 [.agg (iK.enc x).toArray, .agg (iK.enc y).toArray] [] [] (IsV (.int .i64 (cmpI x y))) := by
  refine Fn.enter Try.func47 (by kernel_rfl) rfl (n := 17) rfl rfl (fun w => ?_)
  refine At.seq ?_
  refine At.plain [(false, 0), (false, 1), (false, 2)] rfl ?_
  refine At.box rfl rfl rfl (.t rfl) (fun b1 hb1 => ⟨.all, ?_⟩)
  refine At.box rfl rfl rfl (.t rfl) (fun b2 hb2 => ⟨.all, ?_⟩)
  refine At.e rfl rfl rfl rfl .all (R.assign .c) ?_
  refine At.nil ?_
  refine At.tN ?_
  refine At.seq ?_
  refine At.drawK [(true, 0), (true, 1), (true, 2), (true, 3), (true, 5), (true, 6), (true, 7), (true, 8), (false, 4), (false, 9), (false, 10), (false, 11), (true, 12)] (by kernel_rfl) (by kernel_rfl) ?_
  refine At.s rfl rfl rfl rfl (Cl.kept fun _ h => h) (R.fieldAddr fo_43_0 (.t rfl)) ?_
  refine At.s rfl rfl rfl rfl (Cl.kept fun _ h => h) (R.load Try.underlying3 rfl (.t rfl) (by exact cK M1 rfl)) ?_
  refine At.s rfl rfl rfl rfl (Cl.kept fun _ h => h) (R.fieldAddr fo_43_0 (.t rfl)) ?_
  refine At.s rfl rfl rfl rfl (Cl.kept fun _ h => h) (R.load Try.underlying3 rfl (.t rfl) (by exact cK M0 rfl)) ?_
  refine At.s rfl rfl rfl rfl (Cl.kept fun _ h => h) (R.fieldAddr fo_43_1 (.t rfl)) ?_
  refine At.s rfl rfl rfl rfl (Cl.kept fun _ h => h) (R.load Try.underlying3 rfl (.t rfl) (by exact cK M1 rfl)) ?_
  refine At.s rfl rfl rfl rfl (Cl.kept fun _ h => h) (R.fieldAddr fo_43_1 (.t rfl)) ?_
  refine At.s rfl rfl rfl rfl (Cl.kept fun _ h => h) (R.load Try.underlying3 rfl (.t rfl) (by exact cK M0 rfl)) ?_
  refine At.callVR rfl rfl rfl (.cons (.t rfl) (.cons (.t rfl) .nil)) (by (exact .nil)) (fun hg => c_Compare) (Cl.kept (by (exact fun _ h => h))) ?_
  refine At.callVR rfl rfl rfl (.cons (.t rfl) (.cons (.t rfl) .nil)) (by (exact .nil)) (fun hg => c_Compare) (Cl.kept (by (exact fun _ h => h))) ?_
  refine At.lit (k := zK) rfl rfl rfl Try.underlying32 et_3 (.cons (.t rfl) (.cons (.t rfl) .nil)) (.cons rfl (.cons rfl .nil)) rfl rfl rfl (fun v1 => ⟨(Cl.kept (by (exact keepOf (by ((repeat (first | exact List.Sublist.refl _ | exact List.nil_sublist _ | apply List.Sublist.cons_cons | apply List.Sublist.cons))))))), ?_⟩)
  refine At.callVR rfl rfl rfl (.cons (.t rfl) .nil) (by (exact .cons (by (exact wS M0)) .nil)) (fun hg => c_Or) (Cl.kept (by (exact keepOf (by ((repeat (first | exact List.Sublist.refl _ | exact List.nil_sublist _ | apply List.Sublist.cons_cons | apply List.Sublist.cons))))))) ?_
  refine At.s rfl rfl rfl rfl (Cl.kept (by (exact keepOf (by ((repeat (first | exact List.Sublist.refl _ | exact List.nil_sublist _ | apply List.Sublist.cons_cons | apply List.Sublist.cons))))))) (R.assign (.t rfl)) ?_
  refine At.nil ?_
  refine At.tN ?_
  refine At.ret ?_
  exact At.final (N' := []) rfl (.t rfl) (by ((repeat (first | exact List.Sublist.refl _ | exact List.nil_sublist _ | apply List.Sublist.cons_cons | apply List.Sublist.cons)))) (⟨congrArg (Value.int .i64) (rfl), rfl, rfl⟩)

theorem c_Clone {u : Value} {l : List Itm} (hL : l.length ≤ 1000) : Fn Try.prog 41 [u] [rdE iK u l] [] (IsR iK 43 l) := by
  refine Fn.enter Try.func41 (by kernel_rfl) rfl (n := 8) rfl rfl (fun w => ?_)
  refine At.sliceForm (v := u) (by (exact rS M0)) (fun A cap hv hcap hA => ?_)
  subst hv
  refine At.seq ?_
  refine At.plain [(false, 0)] rfl ?_
  refine At.e rfl rfl rfl rfl .all (R.assign .c) ?_
  refine At.nil ?_
  refine At.tN ?_
  refine At.seq ?_
  refine At.seq ?_
  refine At.plain [(false, 0), (false, 1)] rfl ?_
  refine At.e rfl rfl rfl rfl .all (R.move (.t rfl)) ?_
  refine At.e rfl rfl rfl rfl .all (R.eqlNilS Try.underlying22 (.t rfl)) ?_
  refine At.nil ?_
  refine At.tN ?_
  refine At.cond (.t rfl) (fun c1 => ?_) (fun c1 => ?_)
  · obtain rfl : A = none := (by simpa using c1); have h0 : l = [] := List.eq_nil_of_length_eq_zero (by rcases Nat.eq_zero_or_pos l.length with h | h; exact h; obtain ⟨b, o, hbo⟩ := hA h; cases hbo); subst h0
    refine At.seq ?_
    refine At.nilRow iK 43 ?_
    refine At.plain [(false, 0)] rfl ?_
    refine At.e rfl rfl rfl rfl .all (R.assign .c) ?_
    refine At.nil ?_
    refine At.tN ?_
    refine At.ret ?_
    refine At.tR ?_
    exact At.final (N' := [rowE iK 43 (.slice none 0 0) []]) rfl (.t rfl) (by ((repeat (first | exact List.Sublist.refl _ | exact List.nil_sublist _ | apply List.Sublist.cons_cons | apply List.Sublist.cons)))) (⟨rfl, rfl⟩)
  · skip
    refine At.skip ?_
    refine At.tN ?_
    refine At.seq ?_
    refine At.plain [(false, 0), (false, 1), (false, 2), (false, 3)] rfl ?_
    refine At.lit (k := iK) rfl rfl rfl Try.underlying22 et_43 .nil .nil rfl rfl rfl (fun v1 => ⟨.all, ?_⟩)
    refine At.e rfl rfl rfl rfl .all (R.move (.t rfl)) ?_
    refine At.app (k := iK) rfl rfl rfl Try.underlying22 et_43 (.t rfl) (.t rfl) (fun _ => by (exact U0)) (by (exact rS M0)) (by (simp <;> omega)) (fun v2 => ⟨.all, ?_⟩)
    refine At.e rfl rfl rfl rfl .all (R.assign (.t rfl)) ?_
    refine At.nil ?_
    refine At.tN ?_
    refine At.ret ?_
    exact At.final (N' := [rowE iK 43 v2 l]) rfl (.t rfl) (by ((repeat (first | exact List.Sublist.refl _ | exact List.nil_sublist _ | apply List.Sublist.cons_cons | apply List.Sublist.cons)))) (⟨rfl, rfl⟩)

theorem c_Latest {u : Value} {l : List Itm} {key ver : Int} : Fn Try.prog 33 [u, .int .i64 key, .int .i64 ver] [rdE iK u l] [] (IsV (latV l key ver)) := by
  refine Fn.enter Try.func33 (by kernel_rfl) rfl (n := 44) rfl rfl (fun w => ?_)
  refine At.len (v := u) (by (exact rS M0)) (fun hl1 => ?_)
  refine At.seq ?_
  refine At.plain [(false, 0), (false, 1)] rfl ?_
  refine At.alloc rfl rfl rfl ze_43 (fun b1 hb1 => ⟨.all, ?_⟩)
  refine At.e rfl rfl rfl rfl .all (R.assign .c) ?_
  refine At.nil ?_
  refine At.tN ?_
  refine At.seq ?_
  refine At.plain [(false, 0), (false, 1), (false, 2), (false, 3)] rfl ?_
  refine At.e rfl rfl rfl rfl .all (R.build bt_43 .nil .nil rfl) ?_
  refine At.alloc rfl rfl rfl ze_43 (fun b2 hb2 => ⟨.all, ?_⟩)
  refine At.stN rfl rfl sz_43 (.t rfl) (.t rfl) rfl rfl rfl (.n U0) ⟨.all, ?_⟩
  refine At.e rfl rfl rfl rfl .all (R.assign .c) ?_
  refine At.nil ?_
  refine At.tN ?_
  refine At.seq ?_
  refine At.seq ?_
  refine At.plain [(false, 0), (false, 1), (false, 2)] rfl ?_
  refine At.e rfl rfl rfl rfl .all (R.move (.t rfl)) ?_
  refine At.e rfl rfl rfl rfl .all (R.lenRd Try.underlying22 (.t rfl) (by (exact rS M0))) ?_
  refine At.e rfl rfl rfl rfl .all (R.move .c) ?_
  refine At.nil ?_
  refine At.tN ?_
  refine At.block ?_
  refine At.loop3 (fun (i : Nat) (x : Itm) (t : Bool) => i ≤ l.length ∧ latF (l.take i) key ver = (if t then some x else none) ∧ (t = false → x = default)) (fun (i : Nat) (x : Itm) (t : Bool) => l.length - i) (fun (i : Nat) (x : Itm) (t : Bool) => [(0, true, u), (1, true, .int .i64 key), (2, true, .int .i64 ver), (6, true, .pointer (some ⟨b1, 0, none⟩)), (8, true, .pointer (some ⟨b2, 0, none⟩)), (9, true, .bool t), (13, true, u), (14, true, .int .i64 l.length), (15, true, .int .i64 i)]) (fun (i : Nat) (x : Itm) (t : Bool) => [.blk b2 (.cells (iK.enc x).toArray 43), .blk b1 (.cells #[.int .i64 0, .int .i64 0, .int .i64 0] 43)]) (fun (i : Nat) (x : Itm) (t : Bool) => []) (0) (default) (false) ⟨Nat.zero_le _, rfl, fun _ => rfl⟩ (.cons rfl (.cons rfl (.cons rfl (.cons rfl (.cons rfl (.cons rfl (.cons rfl (.cons rfl (.cons rfl .nil))))))))) (by ((repeat (first | exact List.Sublist.refl _ | exact List.nil_sublist _ | apply List.Sublist.cons_cons | apply List.Sublist.cons)))) rfl (fun i x t hi => ?_)
  obtain ⟨hi1, hi2, hi3⟩ := hi
  refine At.seq ?_
  refine At.plain [(false, 0)] rfl ?_
  refine At.e rfl rfl rfl rfl .all (R.lss (.t rfl) (.t rfl)) ?_
  refine At.nil ?_
  refine At.tN ?_
  refine At.seq ?_
  refine At.condD (.t rfl) (fun c1 => ?_) (fun c1 => ?_)
  · skip
    refine At.skip ?_
    refine At.tN ?_
    refine At.seq ?_
    refine At.block ?_
    refine At.seq ?_
    refine At.plain [(false, 0), (false, 1), (false, 2), (false, 3)] rfl ?_
    refine At.e rfl rfl rfl rfl .all (R.indexRd Try.underlying22 sz_43 (.t rfl) (by (exact rS M0)) (.t rfl) (fun hg => (by omega))) ?_
    refine At.e rfl rfl rfl rfl .all (R.loadRdAgg (us := iK.enc _) Try.underlying43 rfl sz_43 (.t rfl) (by (exact rS M0)) (fun hg => (by omega)) (fun hg => by exact Ek.getA (by omega))) ?_
    refine At.alloc rfl rfl rfl ze_43 (fun b3 hb3 => ⟨.all, ?_⟩)
    refine At.stN rfl rfl sz_43 (.t rfl) (.t rfl) rfl rfl rfl (.n U0) ⟨.all, ?_⟩
    refine At.nil ?_
    refine At.tN ?_
    refine At.seq ?_
    refine At.plain [(false, 0), (false, 1), (false, 2), (false, 3), (false, 4), (false, 5), (false, 6), (false, 7), (false, 8), (false, 9), (false, 10), (false, 11), (false, 12), (false, 13), (false, 14), (false, 15), (false, 16), (false, 17), (false, 18), (false, 19), (false, 20)] rfl ?_
    refine At.e rfl rfl rfl rfl .all (R.fieldAddr fo_43_0 (.t rfl)) ?_
    refine At.e rfl rfl rfl rfl .all (R.load Try.underlying3 rfl (.t rfl) (by exact cS M1 rfl)) ?_
    refine At.e rfl rfl rfl rfl .all (R.move (.t rfl)) ?_
    refine At.e rfl rfl rfl rfl .all (R.eql (.t rfl) (.t rfl)) ?_
    refine At.e rfl rfl rfl rfl .all (R.move (.t rfl)) ?_
    refine At.e rfl rfl rfl rfl .all (R.fieldAddr fo_43_1 (by exact .t rfl)) ?_
    refine At.e rfl rfl rfl rfl .all (R.load Try.underlying3 rfl (by exact .s rfl) (by exact cS M1 rfl)) ?_
    refine At.e rfl rfl rfl rfl .all (R.move (by exact .t rfl)) ?_
    refine At.e rfl rfl rfl rfl .all (R.leq (by exact .s rfl) (by exact .s rfl)) ?_
    refine At.e rfl rfl rfl rfl .all (R.pickAnd (.t rfl) rfl (by simp_all)) ?_
    refine At.e rfl rfl rfl rfl .all (R.move (.t rfl)) ?_
    refine At.e rfl rfl rfl rfl .all (R.move (by exact .t rfl)) ?_
    refine At.e rfl rfl rfl rfl .all (R.not (by exact .s rfl)) ?_
    refine At.e rfl rfl rfl rfl .all (R.move (by exact .s rfl)) ?_
    refine At.e rfl rfl rfl rfl .all (R.fieldAddr fo_43_1 (by exact .t rfl)) ?_
    refine At.e rfl rfl rfl rfl .all (R.load Try.underlying3 rfl (by exact .s rfl) (by exact cS M1 rfl)) ?_
    refine At.e rfl rfl rfl rfl .all (R.fieldAddr fo_43_1 (by exact .t rfl)) ?_
    refine At.e rfl rfl rfl rfl .all (R.load Try.underlying3 rfl (by exact .s rfl) (by exact cS M2 rfl)) ?_
    refine At.e rfl rfl rfl rfl .all (R.geq (by exact .s rfl) (by exact .s rfl)) ?_
    refine At.e rfl rfl rfl rfl .all (R.pickOr (by exact .s rfl) rfl (by simp_all)) ?_
    refine At.e rfl rfl rfl rfl .all (R.pickAnd (.t rfl) rfl (by simp_all)) ?_
    refine At.nil ?_
    refine At.tN ?_
    refine At.cond (.t rfl) (fun c2 => ?_) (fun c2 => ?_)
    · skip
      refine At.plain [(false, 0), (false, 1), (false, 2)] rfl ?_
      refine At.e rfl rfl rfl rfl .all (R.loadAgg (vs := [_, _, _]) Try.underlying43 rfl sz_43 (.t rfl) (by exact csS M1 ⟨rfl, rfl, rfl, trivial⟩)) ?_
      refine At.stN rfl rfl sz_43 (.t rfl) (.t rfl) rfl rfl rfl (.n U1) ⟨.all, ?_⟩
      refine At.e rfl rfl rfl rfl .all (R.assign .c) ?_
      refine At.nil ?_
      refine At.bN ?_
      refine At.tN ?_
      refine At.plain [(false, 0), (false, 1)] rfl ?_
      refine At.e rfl rfl rfl rfl .all (R.addI (.t rfl) .c (fun hg => by omega)) ?_
      refine At.e rfl rfl rfl rfl .all (R.move (.t rfl)) ?_
      refine At.nil ?_
      refine At.tN ?_
      exact At.again3 (i + 1) (gE l i) (true) ⟨by omega, latG_yes (by omega) hi2 (by simpa using c2), fun h => by cases h⟩ (by omega) (.cons rfl (.cons rfl (.cons rfl (.cons rfl (.cons rfl (.cons rfl (.cons rfl (.cons rfl (.cons rfl .nil))))))))) (by ((repeat (first | exact List.Sublist.refl _ | exact List.nil_sublist _ | apply List.Sublist.cons_cons | apply List.Sublist.cons)))) rfl
    · skip
      refine At.skip ?_
      refine At.bN ?_
      refine At.tN ?_
      refine At.plain [(false, 0), (false, 1)] rfl ?_
      refine At.e rfl rfl rfl rfl .all (R.addI (.t rfl) .c (fun hg => by omega)) ?_
      refine At.e rfl rfl rfl rfl .all (R.move (.t rfl)) ?_
      refine At.nil ?_
      refine At.tN ?_
      exact At.again3 (i + 1) (x) (t) ⟨by omega, latG_no (by omega) hi2 (by simpa using c2), hi3⟩ (by omega) (.cons rfl (.cons rfl (.cons rfl (.cons rfl (.cons rfl (.cons rfl (.cons rfl (.cons rfl (.cons rfl .nil))))))))) (by ((repeat (first | exact List.Sublist.refl _ | exact List.nil_sublist _ | apply List.Sublist.cons_cons | apply List.Sublist.cons)))) rfl
  · have hfin : latF l key ver = (if t then some x else none) := (by rw [← hi2, List.take_of_length_le (by omega)])
    refine At.exit ?_
    refine At.tE ?_
    refine At.tE ?_
    refine At.bE ?_
    refine At.tN ?_
    refine At.seq ?_
    refine At.plain [(false, 0), (false, 1), (false, 2), (false, 3)] rfl ?_
    refine At.e rfl rfl rfl rfl .all (R.loadAgg (vs := [_, _, _]) Try.underlying43 rfl sz_43 (.t rfl) (by exact csS M1 ⟨rfl, rfl, rfl, trivial⟩)) ?_
    refine At.e rfl rfl rfl rfl .all (R.move (.t rfl)) ?_
    refine At.stN rfl rfl sz_43 (.t rfl) (.t rfl) rfl rfl rfl (.n U1) ⟨.all, ?_⟩
    refine At.e rfl rfl rfl rfl .all (R.assign (.t rfl)) ?_
    refine At.nil ?_
    refine At.tN ?_
    refine At.ret ?_
    exact At.final2 rfl (.a (vs := [_, _, _]) Try.underlying43 rfl sz_43 rfl (by exact csS M2 ⟨rfl, rfl, rfl, trivial⟩)) (.t rfl) (List.nil_sublist _) (⟨latV_fin hfin hi3, rfl, rfl⟩)

end Go.Proofs.Ytejpanipdjknjaa
