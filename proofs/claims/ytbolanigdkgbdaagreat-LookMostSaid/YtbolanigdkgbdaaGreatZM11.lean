/- Part of the proof: lemmas for what the last file states; no condition. -/
import Derived.Test.YtbolanigdkgbdaaGreatZM10
set_option linter.unusedSectionVars false
namespace Go.Proofs.YtbolanigdkgbdaaGreat
open Go Go.RowKit
set_option maxRecDepth 10000
set_option linter.unusedVariables false
set_option linter.unnecessarySimpa false
set_option linter.unusedSectionVars false
set_option maxHeartbeats 1000000
theorem fo_110_0 : fieldOff? Tryz.prog 110 0 = some 0 := by kernel_rfl
theorem fo_110_1 : fieldOff? Tryz.prog 110 1 = some 1 := by kernel_rfl
theorem fo_110_2 : fieldOff? Tryz.prog 110 2 = some 2 := by kernel_rfl
theorem fo_110_3 : fieldOff? Tryz.prog 110 3 = some 3 := by kernel_rfl
theorem fo_116_0 : fieldOff? Tryz.prog 116 0 = some 0 := by kernel_rfl
theorem fo_116_1 : fieldOff? Tryz.prog 116 1 = some 1 := by kernel_rfl
theorem fo_136_0 : fieldOff? Tryz.prog 136 0 = some 0 := by kernel_rfl
theorem fo_136_1 : fieldOff? Tryz.prog 136 1 = some 1 := by kernel_rfl
theorem fo_27_1 : fieldOff? Tryz.prog 27 1 = some 4 := by kernel_rfl
theorem fo_27_3 : fieldOff? Tryz.prog 27 3 = some 6 := by kernel_rfl
theorem fo_85_0 : fieldOff? Tryz.prog 85 0 = some 0 := by kernel_rfl
theorem fo_85_2 : fieldOff? Tryz.prog 85 2 = some 8 := by kernel_rfl
theorem fo_85_6 : fieldOff? Tryz.prog 85 6 = some 12 := by kernel_rfl
theorem sz_116 : (Tryz.prog.info? 116).map (·.size) = some 6 := by kernel_rfl
theorem sz_136 : (Tryz.prog.info? 136).map (·.size) = some 18 := by kernel_rfl
theorem sz_75 : (Tryz.prog.info? 75).map (·.size) = some 1 := by kernel_rfl
structure ConfOk (th cap wd ver : Int) : Prop where
  h_th : 1 ≤ th ∧ th ≤ 8
  h_cap : th + 2 ≤ cap ∧ cap ≤ 16
  h_ver : 1 ≤ ver ∧ ver ≤ 1048576
  h_wd : 1 ≤ wd ∧ wd ≤ 20000
  h_top : 21 + th + 3 * cap ≤ wd
theorem drNil {dv : Value} {l0 : List Int} : DrO dv l0 (.slice none 0 0) [] := fun w _ => (RdIn.nil (C := fun _ => True) w trivial : RdIs w (.slice none 0 0) zK.sz 0 [])
structure OpOk (o : Op4) : Prop where
  key : 0 ≤ o.key ∧ o.key ≤ 63
  kind : 1 ≤ o.kind ∧ o.kind ≤ 4
  val : 0 ≤ o.val ∧ o.val ≤ 1048576
  to_ : 0 ≤ o.to_ ∧ o.to_ ≤ 63
theorem r_key {k : Int} : Fn Tryz.prog 95 [.int .i64 k] ([]) ([]) (IsV (.bool (decide (0 ≤ k) && decide (k ≤ 63)))) := by
 refine Fn.enter Tryz.func95 (by kernel_rfl) rfl (n := 9) rfl rfl (fun w => ?_)
 refine Z ?_
 exact fT rfl (.t rfl) (⟨rfl, rfl, rfl⟩)
theorem r_WriterOf {t i : Int} (h1 : 0 ≤ t ∧ t < 8) (h2 : 0 ≤ i ∧ i < 1000) : Fn Tryz.prog 97 [.int .i64 t, .int .i64 i] ([]) ([]) (IsV (.int .i64 (t * 1000 + i))) := by
 refine Fn.enter Tryz.func97 (by kernel_rfl) rfl (n := 23) rfl rfl (fun w => ?_)
 refine W ?_
 refine eA rfl (R.as (R.lss (.t rfl) .c) dF) ?_
 refine W ?_
 refine eA rfl (R.as (R.geq (.t rfl) .c) dF) ?_
 refine W ?_
 refine eA rfl (R.as (R.lss (.t rfl) .c) dF) ?_
 refine W ?_
 refine eA rfl (R.as (R.geq (.t rfl) .c) dF) ?_
 refine W ?_
 exact fT rfl (.t rfl) (⟨rfl, rfl, rfl⟩)
theorem r_Of {w : Int} (h1 : 0 ≤ w ∧ w < 8000) : Fn Tryz.prog 108 [.int .i64 w] ([]) ([]) (IsV (.tuple #[.int .i64 (w / 1000), .int .i64 (w % 1000)])) := by
 refine Fn.enter Tryz.func108 (by kernel_rfl) rfl (n := 14) rfl rfl (fun w => ?_)
 refine W ?_
 refine eA rfl (R.as (R.lss (.t rfl) .c) dF) ?_
 refine W ?_
 refine eA rfl (R.as (R.geq (.t rfl) .c) dF) ?_
 refine W ?_
 refine eA rfl (R.quoI (.t rfl) .c gO) ?_
 refine W ?_
 refine eA rfl (R.remI (.t rfl) .c gO) ?_
 refine W ?_
 exact At.final2 rfl (.t rfl) (.t rfl) (List.nil_sublist _) (⟨rfl, rfl, rfl⟩)
theorem r_OfE {w : Int} : Fn Tryz.prog 108 [.int .i64 w] ([]) ([]) (fun v N H => (∃ a b, v = .tuple #[.int .i64 a, .int .i64 b]) ∧ N = [] ∧ H = []) := by
 refine Fn.enter Tryz.func108 (by kernel_rfl) rfl (n := 14) rfl rfl (fun w => ?_)
 refine Z ?_
 refine At.cond (.t rfl) (fun c1 => ?_) (fun c1 => ?_)
 ·
  refine W ?_
  exact At.final2 rfl (.t rfl) (.t rfl) (List.nil_sublist _) (⟨⟨_, _, rfl⟩, rfl, rfl⟩)
 ·
  simp at c1
  refine W ?_
  refine eA rfl (R.quoI (.t rfl) .c gO) ?_
  refine W ?_
  refine eA rfl (R.remI (.t rfl) .c gO) ?_
  refine W ?_
  exact At.final2 rfl (.t rfl) (.t rfl) (List.nil_sublist _) (⟨⟨_, _, rfl⟩, rfl, rfl⟩)
theorem r_IsConf {th cap wd ver : Int} : Fn Tryz.prog 71 [.agg #[.int .i64 th, .int .i64 cap, .int .i64 wd, .int .i64 ver]] ([]) ([]) (fun v N H => (∃ e, v = .int .i64 e ∧ (e = 0 → ConfOk th cap wd ver)) ∧ N = [] ∧ H = []) := by
 refine Fn.enter Tryz.func71 (by kernel_rfl) rfl (n := 49) rfl rfl (fun w => ?_)
 refine W ?_
 refine At.box rfl rfl rfl (.t rfl) (fun b1 hb1 => ⟨.all, ?_⟩)
 refine U ?_
 refine eA rfl (R.lss (.t rfl) .c) ?_
 refine U ?_
 refine eA rfl (R.gtr (.s rfl) .c) ?_
 refine eA rfl (R.pickOr (.t rfl) rfl (by (intro hg h; rw [h]; rfl))) ?_
 refine U ?_
 refine eA rfl (R.addI (.s rfl) .c (fun hg => by (simp [-List.length_eq_zero_iff] at hg; omega))) ?_
 refine eA rfl (R.lss (.s rfl) (.s rfl)) ?_
 refine eA rfl (R.pickOr (.t rfl) rfl (by (intro hg h; rw [h]; rfl))) ?_
 refine U ?_
 refine eA rfl (R.gtr (.s rfl) .c) ?_
 refine eA rfl (R.pickOr (.t rfl) rfl (by (intro hg h; rw [h]; rfl))) ?_
 refine U ?_
 refine eA rfl (R.lss (.s rfl) .c) ?_
 refine eA rfl (R.pickOr (.t rfl) rfl (by (intro hg h; rw [h]; rfl))) ?_
 refine U ?_
 refine eA rfl (R.gtr (.s rfl) .c) ?_
 refine eA rfl (R.pickOr (.t rfl) rfl (by (intro hg h; rw [h]; rfl))) ?_
 refine U ?_
 refine eA rfl (R.lss (.s rfl) .c) ?_
 refine eA rfl (R.pickOr (.t rfl) rfl (by (intro hg h; rw [h]; rfl))) ?_
 refine U ?_
 refine eA rfl (R.gtr (.s rfl) .c) ?_
 refine eA rfl (R.pickOr (.t rfl) rfl (by (intro hg h; rw [h]; rfl))) ?_
 refine U ?_
 refine At.cond (.t rfl) (fun c1 => ?_) (fun c1 => ?_)
 ·
  refine W ?_
  exact fT rfl (.t rfl) (⟨⟨_, rfl, fun h => by (exact absurd h (by decide))⟩, rfl, rfl⟩)
 ·
  simp at c1
  refine W ?_
  refine At.drawK [tt 0, tt 2, tt 3, ff 1, tt 4] (by kernel_rfl) (by kernel_rfl) ?_
  refine W ?_
  refine At.callVR rfl rfl rfl (.k rfl .nil) (.nil) (fun hg => r_Top (by omega) (by omega)) kI ?_
  refine Z ?_
  refine At.condD (.t rfl) (fun c2 => ?_) (fun c2 => ?_)
  ·
   refine W ?_
   exact fT rfl (.t rfl) (⟨⟨_, rfl, fun h => by (exact absurd h (by decide))⟩, rfl, rfl⟩)
  ·
   refine W ?_
   exact fT rfl (.t rfl) (⟨⟨_, rfl, fun h => by exact ⟨by omega, by omega, by omega, by omega, by omega⟩⟩, rfl, rfl⟩)
theorem r_IsOp {o : Op4} : Fn Tryz.prog 72 [.agg #[.int .i64 o.kind, .int .i64 o.key, .int .i64 o.val, .int .i64 o.to_]] ([]) ([]) (fun v N H => (∃ e : Bool, v = .bool e ∧ (e = true → OpOk o)) ∧ N = [] ∧ H = []) := by
 refine Fn.enter Tryz.func72 (by kernel_rfl) rfl (n := 56) rfl rfl (fun w => ?_)
 refine W ?_
 refine At.box rfl rfl rfl (.t rfl) (fun b1 hb1 => ⟨.all, ?_⟩)
 refine Z ?_
 refine At.condD (.t rfl) (fun c1 => ?_) (fun c1 => ?_)
 ·
  refine W ?_
  refine At.callVR rfl rfl rfl (.k rfl .nil) (.nil) (fun hg => r_key) .all ?_
  refine Z ?_
  exact fT rfl (.t rfl) (⟨⟨_, rfl, fun h => by ((try simp at h); (try simp at c1); exact ⟨by omega, by omega, by omega, by omega⟩)⟩, rfl, rfl⟩)
 ·
  refine Z ?_
  refine At.condD (.t rfl) (fun c2 => ?_) (fun c2 => ?_)
  ·
   refine W ?_
   refine At.condD (.t rfl) (fun c3 => ?_) (fun c3 => ?_)
   ·
    refine W ?_
    refine At.callVR rfl rfl rfl (.k rfl .nil) (.nil) (fun hg => r_key) .all ?_
    refine Z ?_
    exact fT rfl (.t rfl) (⟨⟨_, rfl, fun h => by ((try simp at h); (try simp at c1); exact ⟨by omega, by omega, by omega, by omega⟩)⟩, rfl, rfl⟩)
   ·
    refine At.seq ?_
    refine At.plain [ff 0, ff 1] rfl ?_
    refine eA rfl (R.as (R.eql (.t rfl) .c) dT) ?_
    refine eA rfl (R.assign (.t rfl)) ?_
    refine At.nil ?_
    refine At.tN ?_
    refine At.cond (.t rfl) (fun c4 => ?_) (fun c4 => ?_)
    ·
     refine W ?_
     refine At.callVR rfl rfl rfl (.k rfl .nil) (.nil) (fun hg => r_key) .all ?_
     refine W ?_
     refine At.callVR rfl rfl rfl (.cons (.s rfl) .nil) (.nil) (fun hg => r_key) .all ?_
     refine W ?_
     refine eA rfl (R.as (R.eql (.s rfl) .c) dT) ?_
     refine W ?_
     exact fT rfl (.t rfl) (⟨⟨_, rfl, fun h => by ((try simp at h); (try simp at c1); exact ⟨by omega, by omega, by omega, by omega⟩)⟩, rfl, rfl⟩)
    ·
     refine W ?_
     exact fT rfl (.t rfl) (⟨⟨_, rfl, fun h => by (exact absurd h (by decide))⟩, rfl, rfl⟩)
  ·
   refine Z ?_
   refine At.condD (.t rfl) (fun c5 => ?_) (fun c5 => ?_)
   ·
    refine W ?_
    refine At.callVR rfl rfl rfl (.k rfl .nil) (.nil) (fun hg => r_key) .all ?_
    refine Z ?_
    exact fT rfl (.t rfl) (⟨⟨_, rfl, fun h => by ((try simp at h); (try simp at c1); exact ⟨by omega, by omega, by omega, by omega⟩)⟩, rfl, rfl⟩)
   ·
    refine Z ?_
    refine At.condD (.t rfl) (fun c6 => ?_) (fun c6 => ?_)
    ·
     refine W ?_
     refine At.callVR rfl rfl rfl (.k rfl .nil) (.nil) (fun hg => r_key) .all ?_
     refine W ?_
     refine At.callVR rfl rfl rfl (.cons (.s rfl) .nil) (.nil) (fun hg => r_key) .all ?_
     refine Z ?_
     exact fT rfl (.t rfl) (⟨⟨_, rfl, fun h => by ((try simp at h); (try simp at c1); exact ⟨by omega, by omega, by omega, by omega⟩)⟩, rfl, rfl⟩)
    ·
     refine W ?_
     exact fT rfl (.t rfl) (⟨⟨_, rfl, fun h => by (exact absurd h (by decide))⟩, rfl, rfl⟩)
theorem ma_ops {mb ba : Nat} {Ov Pv dv Tv Kv Gv : Value} {x : Ma} {gs : opsRows} {t : Int} (hg : gs.length ≤ 1000) : Fn Tryz.prog 89 [.pointer (some ⟨mb, 0, none⟩), .int .i64 t] (maB mb Ov Pv dv ba Tv Kv Gv x :: nest opK Ov gs) ([]) (IsV (opsV gs t)) := by
 refine Fn.enter Tryz.func89 (by kernel_rfl) rfl (n := 25) rfl rfl (fun w => ?_)
 have hG : ∀ y ∈ gs, rdE opK y.1 y.2 ∈ maB mb Ov Pv dv ba Tv Kv Gv x :: nest opK Ov gs := fun y hy => .tail _ (.tail _ ((List.mem_map.2 ⟨y, hy, rfl⟩)))
 refine Z ?_
 refine At.cond (.t rfl) (fun c1 => ?_) (fun c1 => ?_)
 ·
  refine W ?_
  exact fT rfl (.t rfl) (⟨opsV_no (by simp at c1; omega), rfl, rfl⟩)
 ·
  simp at c1
  refine U ?_
  refine eA rfl (R.indexRd Tryz.underlying24 sz_75 (.t rfl) (rS M1) (.t rfl) gO) ?_
  refine eA rfl (R.loadRd Tryz.underlying75 rfl (.t rfl) (rS M1) (fun hg => by exact nestGet (by omega))) ?_
  refine U ?_
  exact fT rfl (.t rfl) (⟨opsV_yes (by omega), rfl, rfl⟩)
theorem ov_Neg {mb ba : Nat} {Ov Pv dv Tv Kv Gv : Value} {x : Ma} {gs : opsRows} {ts : List Th} {t : Int} (hgl : gs.length ≤ 1000) (htl : ts.length ≤ 1000) (h : t < 0) : Fn Tryz.prog 60 [.pointer (some ⟨mb, 0, none⟩), .int .i64 t] (maB mb Ov Pv dv ba Tv Kv Gv x :: rdE thK Tv ts :: nest opK Ov gs) ([]) (IsV (.bool true)) := by
 refine Fn.enter Tryz.func60 (by kernel_rfl) rfl (n := 42) rfl rfl (fun w => ?_)
 have hG : ∀ y ∈ gs, rdE opK y.1 y.2 ∈ maB mb Ov Pv dv ba Tv Kv Gv x :: rdE thK Tv ts :: nest opK Ov gs := fun y hy => .tail _ (.tail _ (.tail _ ((List.mem_map.2 ⟨y, hy, rfl⟩))))
 refine W ?_
 refine At.drawK [tt 0, tt 1, tt 2, tt 3, tt 4, tt 5, tt 6, tt 7, tt 8, tt 9, tt 10, tt 11, tt 12, tt 13, tt 14, tt 15, tt 16, tt 17, tt 18, tt 19, tt 20, tt 21, tt 22, tt 23, tt 24, tt 25, tt 26, tt 27, tt 28, tt 29, tt 30, tt 31, ff 32, tt 33, tt 34, tt 35, tt 36, tt 37] (by kernel_rfl) (by kernel_rfl) ?_
 refine sJ rfl (R.move (.t rfl)) ?_
 refine sJ rfl (R.as (R.lss (.t rfl) .c) dT) ?_
 refine sJ rfl (R.move (.t rfl)) ?_
 refine At.sF rfl rfl rfl rfl kI ?_
 refine At.sF rfl rfl rfl rfl (Cl.kept fun _ h => h) ?_
 refine At.sF rfl rfl rfl rfl (Cl.kept fun _ h => h) ?_
 refine At.sF rfl rfl rfl rfl kI ?_
 refine At.sF rfl rfl rfl rfl kI ?_
 refine At.sF rfl rfl rfl rfl kI ?_
 refine At.sFb rfl rfl rfl rfl kI ?_
 refine sJ rfl (R.pickT (.t rfl) .c) ?_
 refine sJ rfl (R.move (.t rfl)) ?_
 refine At.sF rfl rfl rfl rfl kI ?_
 refine At.sF rfl rfl rfl rfl kI ?_
 refine At.sF rfl rfl rfl rfl kI ?_
 refine At.sF rfl rfl rfl rfl kI ?_
 refine At.sF rfl rfl rfl rfl kI ?_
 refine At.sF rfl rfl rfl rfl (Cl.kept fun _ h => h) ?_
 refine At.sF rfl rfl rfl rfl kI ?_
 refine At.sFb rfl rfl rfl rfl kI ?_
 refine At.sFb rfl rfl rfl rfl kI ?_
 refine At.sFb rfl rfl rfl rfl kI ?_
 refine At.sF rfl rfl rfl rfl kI ?_
 refine At.sF rfl rfl rfl rfl kI ?_
 refine At.sF rfl rfl rfl rfl kI ?_
 refine At.sF rfl rfl rfl rfl kI ?_
 refine At.sF rfl rfl rfl rfl kI ?_
 refine At.sF rfl rfl rfl rfl kI ?_
 refine At.sF rfl rfl rfl rfl kI ?_
 refine At.sF rfl rfl rfl rfl kI ?_
 refine At.sF rfl rfl rfl rfl kI ?_
 refine At.sF rfl rfl rfl rfl kI ?_
 refine At.eF rfl rfl rfl rfl kI ?_
 refine At.sF rfl rfl rfl rfl kI ?_
 refine At.sFb rfl rfl rfl rfl kI ?_
 refine At.sFb rfl rfl rfl rfl kI ?_
 refine W ?_
 exact fT rfl (.t rfl) (⟨rfl, rfl, rfl⟩)
theorem ov_Big {mb ba : Nat} {Ov Pv dv Tv Kv Gv : Value} {x : Ma} {gs : opsRows} {ts : List Th} {t : Int} (hgl : gs.length ≤ 1000) (htl : ts.length ≤ 1000) (h : 0 ≤ t ∧ (ts.length : Int) ≤ t) : Fn Tryz.prog 60 [.pointer (some ⟨mb, 0, none⟩), .int .i64 t] (maB mb Ov Pv dv ba Tv Kv Gv x :: rdE thK Tv ts :: nest opK Ov gs) ([]) (IsV (.bool true)) := by
 refine Fn.enter Tryz.func60 (by kernel_rfl) rfl (n := 42) rfl rfl (fun w => ?_)
 have hG : ∀ y ∈ gs, rdE opK y.1 y.2 ∈ maB mb Ov Pv dv ba Tv Kv Gv x :: rdE thK Tv ts :: nest opK Ov gs := fun y hy => .tail _ (.tail _ (.tail _ ((List.mem_map.2 ⟨y, hy, rfl⟩))))
 refine W ?_
 refine At.drawK [tt 0, tt 1, tt 2, tt 3, tt 4, tt 5, tt 6, tt 7, tt 8, tt 9, tt 10, tt 11, tt 12, tt 13, tt 14, tt 15, tt 16, tt 17, tt 18, tt 19, tt 20, tt 21, tt 22, tt 23, tt 24, tt 25, tt 26, tt 27, tt 28, tt 29, tt 30, tt 31, ff 32, tt 33, tt 34, tt 35, tt 36, tt 37] (by kernel_rfl) (by kernel_rfl) ?_
 refine sJ rfl (R.move (.t rfl)) ?_
 refine sJ rfl (R.as (R.lss (.t rfl) .c) dF) ?_
 refine sJ rfl (R.move (.t rfl)) ?_
 refine sJ rfl (R.move (.t rfl)) ?_
 refine sJ rfl (R.move (.t rfl)) ?_
 refine sJ rfl (R.nilCheckP (.t rfl)) ?_
 refine sJ rfl (R.fieldAddr fo_85_2 (.t rfl)) ?_
 refine sJ rfl (R.load Tryz.underlying82 rfl (.t rfl) (cK M0 rfl)) ?_
 refine sJ rfl (R.lenRd Tryz.underlying82 (.t rfl) (rK M1)) ?_
 refine sJ rfl (R.as (R.geq (.t rfl) (.t rfl)) dT) ?_
 refine sJ rfl (R.pickF (.t rfl) (.t rfl)) ?_
 refine sJ rfl (R.move (.t rfl)) ?_
 refine At.sF rfl rfl rfl rfl kI ?_
 refine At.sF rfl rfl rfl rfl kI ?_
 refine At.sF rfl rfl rfl rfl kI ?_
 refine At.sF rfl rfl rfl rfl kI ?_
 refine At.sF rfl rfl rfl rfl kI ?_
 refine At.sF rfl rfl rfl rfl (Cl.kept fun _ h => h) ?_
 refine At.sF rfl rfl rfl rfl kI ?_
 refine At.sFb rfl rfl rfl rfl kI ?_
 refine At.sFb rfl rfl rfl rfl kI ?_
 refine At.sFb rfl rfl rfl rfl kI ?_
 refine At.sF rfl rfl rfl rfl kI ?_
 refine At.sF rfl rfl rfl rfl kI ?_
 refine At.sF rfl rfl rfl rfl kI ?_
 refine At.sF rfl rfl rfl rfl kI ?_
 refine At.sF rfl rfl rfl rfl kI ?_
 refine At.sF rfl rfl rfl rfl kI ?_
 refine At.sF rfl rfl rfl rfl kI ?_
 refine At.sF rfl rfl rfl rfl kI ?_
 refine At.sF rfl rfl rfl rfl kI ?_
 refine At.sF rfl rfl rfl rfl kI ?_
 refine At.eF rfl rfl rfl rfl kI ?_
 refine At.sF rfl rfl rfl rfl kI ?_
 refine At.sFb rfl rfl rfl rfl kI ?_
 refine At.sFb rfl rfl rfl rfl kI ?_
 refine W ?_
 exact fT rfl (.t rfl) (⟨rfl, rfl, rfl⟩)
theorem ov_Busy {mb ba : Nat} {Ov Pv dv Tv Kv Gv : Value} {x : Ma} {gs : opsRows} {ts : List Th} {t : Int} (hgl : gs.length ≤ 1000) (htl : ts.length ≤ 1000) (h : 0 ≤ t ∧ t < ts.length) (hb : (gE ts t).busy = true) : Fn Tryz.prog 60 [.pointer (some ⟨mb, 0, none⟩), .int .i64 t] (maB mb Ov Pv dv ba Tv Kv Gv x :: rdE thK Tv ts :: nest opK Ov gs) ([]) (IsV (.bool false)) := by
 refine Fn.enter Tryz.func60 (by kernel_rfl) rfl (n := 42) rfl rfl (fun w => ?_)
 have hG : ∀ y ∈ gs, rdE opK y.1 y.2 ∈ maB mb Ov Pv dv ba Tv Kv Gv x :: rdE thK Tv ts :: nest opK Ov gs := fun y hy => .tail _ (.tail _ (.tail _ ((List.mem_map.2 ⟨y, hy, rfl⟩))))
 refine W ?_
 refine At.drawK [tt 0, tt 1, tt 2, tt 3, tt 4, tt 5, tt 6, tt 7, tt 8, tt 9, tt 10, tt 11, tt 12, tt 13, tt 14, tt 15, tt 16, tt 17, tt 18, tt 19, tt 20, tt 21, tt 22, tt 23, tt 24, tt 25, tt 26, tt 27, tt 28, tt 29, tt 30, tt 31, ff 32, tt 33, tt 34, tt 35, tt 36, tt 37] (by kernel_rfl) (by kernel_rfl) ?_
 refine U ?_
 refine sJ rfl (R.as (R.lss (.t rfl) .c) dF) ?_
 refine U ?_
 refine sJ rfl (R.lenRd Tryz.underlying82 (.t rfl) (rK M1)) ?_
 refine sJ rfl (R.as (R.geq (.t rfl) (.t rfl)) dF) ?_
 refine U ?_
 refine sJ rfl (R.indexRd Tryz.underlying82 sz_116 (.t rfl) (rK M1) (.t rfl) gO) ?_
 refine sJ rfl (R.fieldRd fo_116_1 (.t rfl) (rK M1) gO) ?_
 refine At.s rfl rfl rfl rfl (Cl.kept fun _ h => h) (R.as (R.loadRd Tryz.underlying4 rfl (by exact .t rfl) (by exact rK M1) (fun hg => by exact Ek.getN rfl (by omega))) (fun _ => congrArg Value.bool hb)) ?_
 refine sJ rfl (R.not (.t rfl)) ?_
 refine sJ rfl (R.move (.t rfl)) ?_
 refine At.sF rfl rfl rfl rfl (Cl.kept fun _ h => h) ?_
 refine At.sF rfl rfl rfl rfl kI ?_
 refine At.sF rfl rfl rfl rfl kI ?_
 refine At.sF rfl rfl rfl rfl kI ?_
 refine At.sF rfl rfl rfl rfl kI ?_
 refine At.sF rfl rfl rfl rfl (Cl.kept fun _ h => h) ?_
 refine At.sF rfl rfl rfl rfl kI ?_
 refine At.sF rfl rfl rfl rfl kI ?_
 refine At.sF rfl rfl rfl rfl kI ?_
 refine At.sF rfl rfl rfl rfl kI ?_
 refine At.eF rfl rfl rfl rfl kI ?_
 refine At.sF rfl rfl rfl rfl kI ?_
 refine At.sFb rfl rfl rfl rfl kI ?_
 refine W ?_
 exact fT rfl (.t rfl) (⟨rfl, rfl, rfl⟩)
theorem ov_Idle {mb ba : Nat} {Ov Pv dv Tv Kv Gv : Value} {x : Ma} {gs : opsRows} {ts : List Th} {t : Int} (hgl : gs.length ≤ 1000) (htl : ts.length ≤ 1000) (h : 0 ≤ t ∧ t < ts.length) (hb : (gE ts t).busy = false) : Fn Tryz.prog 60 [.pointer (some ⟨mb, 0, none⟩), .int .i64 t] (maB mb Ov Pv dv ba Tv Kv Gv x :: rdE thK Tv ts :: nest opK Ov gs) ([]) (IsV (.bool (decide (((opsL gs t).length : Int) ≤ (gE ts t).next)))) := by
 refine Fn.enter Tryz.func60 (by kernel_rfl) rfl (n := 42) rfl rfl (fun w => ?_)
 have hG : ∀ y ∈ gs, rdE opK y.1 y.2 ∈ maB mb Ov Pv dv ba Tv Kv Gv x :: rdE thK Tv ts :: nest opK Ov gs := fun y hy => .tail _ (.tail _ (.tail _ ((List.mem_map.2 ⟨y, hy, rfl⟩))))
 refine W ?_
 refine At.drawK [tt 0, tt 1, tt 2, tt 3, tt 4, tt 5, tt 6, tt 7, tt 8, tt 9, tt 10, tt 11, tt 12, tt 13, tt 14, tt 15, tt 16, tt 17, tt 18, tt 19, tt 20, tt 21, tt 22, tt 23, tt 24, tt 25, tt 26, tt 27, tt 28, tt 29, tt 30, tt 31, ff 32, tt 33, tt 34, tt 35, tt 36, tt 37] (by kernel_rfl) (by kernel_rfl) ?_
 refine U ?_
 refine sJ rfl (R.as (R.lss (.t rfl) .c) dF) ?_
 refine U ?_
 refine sJ rfl (R.lenRd Tryz.underlying82 (.t rfl) (rK M1)) ?_
 refine sJ rfl (R.as (R.geq (.t rfl) (.t rfl)) dF) ?_
 refine U ?_
 refine sJ rfl (R.indexRd Tryz.underlying82 sz_116 (.t rfl) (rK M1) (.t rfl) gO) ?_
 refine sJ rfl (R.fieldRd fo_116_1 (.t rfl) (rK M1) gO) ?_
 refine At.s rfl rfl rfl rfl (Cl.kept fun _ h => h) (R.as (R.loadRd Tryz.underlying4 rfl (by exact .t rfl) (by exact rK M1) (fun hg => by exact Ek.getN rfl (by omega))) (fun _ => congrArg Value.bool hb)) ?_
 refine Z ?_
 refine At.callVR rfl rfl rfl (.k rfl (.k rfl .nil)) (.blk (.st M0) (.ofNest (rS M2) (fun y hy => rS (by simp only [List.mem_append]; exact .inl (hG y hy))))) (fun hg => ma_ops (t := t) (gs := gs) hgl) kI ?_
 refine sJ rfl (R.lenRd Tryz.underlying75 (.t rfl) (opsRd t (fun y hy => rK (by simp only [List.mem_append]; exact .inl (hG y hy))))) ?_
 refine Z ?_
 exact fT rfl (.t rfl) (⟨rfl, rfl, rfl⟩)
theorem ma_event {mb ba : Nat} {Ov Pv dv Tv Kv Gv : Value} {x : Ma} {es : List Evt} {t j : Int} (hl : es.length ≤ 1000000) : Fn Tryz.prog 76 [.pointer (some ⟨mb, 0, none⟩), .int .i64 t, .int .i64 j] ([maB mb Ov Pv dv ba Tv Kv Gv x, rdE evK Gv es]) ([]) (fun v N H => (∃ k, v = .int .i64 k ∧ EvF es t j k) ∧ N = [] ∧ H = []) := by
 refine Fn.enter Tryz.func76 (by kernel_rfl) rfl (n := 40) rfl rfl (fun w => ?_)
 refine W ?_
 refine At.loop1 (fun (i : Nat) => i ≤ es.length ∧ ∀ q : Nat, q < i → ¬ ((gE es (q : Int)).thread = t ∧ (gE es (q : Int)).index = j)) (fun (i : Nat) => es.length - i) (fun (i : Nat) => [(0, true, .pointer (some ⟨mb, 0, none⟩)), (1, true, .int .i64 t), (2, true, .int .i64 j), (7, true, .int .i64 i)]) (fun (i : Nat) => []) (fun (i : Nat) => []) (0) ⟨Nat.zero_le _, fun q hq => absurd hq (Nat.not_lt_zero _)⟩ (.cons rfl (.cons rfl (.cons rfl (.cons rfl .nil)))) (List.Sublist.refl _) rfl (fun i hi => ?_)
 obtain ⟨hi1, hi2⟩ := hi
 refine Z ?_
 refine At.condD (.t rfl) (fun c1 => ?_) (fun c1 => ?_)
 ·
  refine U ?_
  refine eA rfl (R.indexRd Tryz.underlying83 sz_136 (.t rfl) (rS M1) (.t rfl) gO) ?_
  refine eA rfl (R.fieldRd fo_136_0 (.t rfl) (rS M1) gO) ?_
  refine eA rfl (R.loadRd Tryz.underlying3 rfl (.t rfl) (rS M1) (fun hg => by exact Ek.getN rfl (by omega))) ?_
  refine U ?_
  refine eA rfl (R.eql (.t rfl) (.t rfl)) ?_
  refine U ?_
  refine eA rfl (R.indexRd Tryz.underlying83 sz_136 (.s rfl) (rS M1) (.s rfl) gO) ?_
  refine eA rfl (R.fieldRd fo_136_1 (.s rfl) (rS M1) gO) ?_
  refine eA rfl (R.loadRd Tryz.underlying3 rfl (.s rfl) (rS M1) (fun hg => by exact Ek.getN rfl (by omega))) ?_
  refine U ?_
  refine eA rfl (R.eql (.s rfl) (.s rfl)) ?_
  refine eA rfl (R.pickAnd (.t rfl) rfl (by (intro hg h; rw [h]; rfl))) ?_
  refine U ?_
  refine At.cond (.t rfl) (fun c2 => ?_) (fun c2 => ?_)
  ·
   refine W ?_
   exact fT rfl (.t rfl) (⟨⟨_, rfl, EvF.mk (k := i) (by omega) (by simpa using c2)⟩, rfl, rfl⟩)
  ·
   refine W ?_
   exact At.again1 (i + 1) ⟨by omega, fun q hq => (by rcases Nat.lt_succ_iff_lt_or_eq.1 hq with h | h; exact hi2 q h; subst h; simpa using c2)⟩ (by omega) (.cons rfl (.cons rfl (.cons rfl (.cons rfl .nil)))) (List.Sublist.refl _) rfl
 ·
  refine W ?_
  exact fT rfl (.t rfl) (⟨⟨_, rfl, EvF.none (k := i) (by omega) hi2⟩, rfl, rfl⟩)
theorem ma_draws {mb ba : Nat} {Ov Pv dv Tv Kv Gv : Value} {x : Ma} {l0 : List Int} {wr : Int} (hw : 0 ≤ wr ∧ wr < 8000) (hl : l0.length ≤ 1000000000) : Fn Tryz.prog 100 [.pointer (some ⟨mb, 0, none⟩), .int .i64 wr] ([maB mb Ov Pv dv ba Tv Kv Gv x, rdE zK dv l0]) ([]) (fun v N H => (∃ l, DrO dv l0 v l) ∧ N = [] ∧ H = []) := by
 refine Fn.enter Tryz.func100 (by kernel_rfl) rfl (n := 33) rfl rfl (fun w => ?_)
 refine W ?_
 refine At.callVR rfl rfl rfl (.k rfl .nil) (.nil) (fun hg => r_Of hw) .all ?_
 refine Z ?_
 refine At.condD (.t rfl) (fun c1 => ?_) (fun c1 => ?_)
 ·
  refine W ?_
  exact fT rfl (.t rfl) (⟨⟨_, drNil⟩, rfl, rfl⟩)
 ·
  have hlp : 0 < (l0.length : Int) := (by have h9 : ¬ ((l0.length : Int) = 0) := (by simpa using c1); omega); have hq := Int.emod_lt_of_pos (wr % 1000) hlp; have hq0 := Int.emod_nonneg (wr % 1000) (b := (l0.length : Int)) (by omega)
  refine W ?_
  refine At.drawK [tt 0, tt 1, tt 2, tt 3, tt 4, tt 5, tt 6, tt 7, tt 8, tt 9, tt 10, tt 11, tt 12, tt 13, tt 14] (by kernel_rfl) (by kernel_rfl) ?_
  refine W ?_
  refine sJ rfl (R.as (R.remI (.t rfl) (.t rfl) gO) (fun _ => congrArg (Value.int .i64) ((Int.toNat_of_nonneg hq0).symm : _ = ((wr % 1000 % (l0.length : Int)).toNat : Int)))) ?_
  refine sJ rfl (R.sliceRd Tryz.underlying25 sz_3 (.t rfl) (rK M1) (.t rfl) rfl gO) ?_
  refine W ?_
  exact fT rfl (.t rfl) (⟨⟨_, DrO.cut DrO.refl _ (by omega)⟩, rfl, rfl⟩)
end Go.Proofs.YtbolanigdkgbdaaGreat
namespace Go.Proofs.YtbolanigdkgbdaaGreat
open Go Go.RowKit
set_option maxRecDepth 10000
set_option linter.unusedVariables false
set_option linter.unnecessarySimpa false
set_option linter.unusedSectionVars false
set_option maxHeartbeats 1000000
theorem bt_59 : buildTab Tryz.prog 59 = some (#[.slice none 0 0, .int .i64 0, .int .i64 0, .int .i64 0, .int .i64 0, .int .i64 0, .bool false], [(0, 1), (1, 1), (2, 5)]) := by kernel_rfl
theorem fo_27_0 : fieldOff? Tryz.prog 27 0 = some 0 := by kernel_rfl
theorem fo_27_2 : fieldOff? Tryz.prog 27 2 = some 5 := by kernel_rfl
theorem sz_110 : (Tryz.prog.info? 110).map (·.size) = some 4 := by kernel_rfl
theorem ze_3 : (Tryz.prog.info? 3).bind (·.zero) = some (.int .i64 0) := by kernel_rfl
theorem allE {α : Type} [Inhabited α] {l : List α} {P : α → Prop} (h : ∀ j : Nat, j < l.length → P (gE l (j : Int))) : ∀ x ∈ l, P x := fun x hx => by
  obtain ⟨j, hj, rfl⟩ := List.getElem_of_mem hx
  have := h j hj
  simpa [gE, hj] using this
structure ScOk (th cap wd ver : Int) (gs : opsRows) (ps : List Int) : Prop where
  conf : ConfOk th cap wd ver
  gl : (gs.length : Int) ≤ th
  pl : ps.length ≤ 20000
  ol : ∀ y ∈ gs, y.2.length ≤ 1000
  oo : ∀ y ∈ gs, ∀ o ∈ y.2, OpOk o
def rN0 (n : Nat) : Rr := ⟨List.replicate n 0, 0, 0, 0, 0, 0, false⟩
theorem rN0_okk {n : Nat} : (rN0 n).okk n 0 := ⟨List.length_replicate, fun x hx => by rw [(List.mem_replicate.1 hx).2]; unfold MB; omega, by show (0 : Int) ≤ 0 ∧ (0 : Int) ≤ 0; decide⟩
theorem Rr.okk.poke {n k : Nat} {r : Rr} (h : r.okk n k) {i x : Int} (hx : Bd k x) : (r.poke i x).okk n k := ⟨(Rr.poke_len _ _ _).trans h.len, Rr.poke_mid h.mid hx, by rw [Rr.poke_n]; exact h.cnt⟩
theorem r_IsScript {th cap wd ver : Int} {Ov Pv dv : Value} {gs : opsRows} {ps l0 : List Int} (hgb : gs.length ≤ 1000000000) (hpb : ps.length ≤ 1000000000) (hob : ∀ y ∈ gs, y.2.length ≤ 1000000000)  : Fn Tryz.prog 39 [.agg #[.int .i64 th, .int .i64 cap, .int .i64 wd, .int .i64 ver, Ov, Pv, dv]] (rdE zK dv l0 :: rdE zK Pv ps :: nest opK Ov gs) ([]) (fun v N H => (∃ e, v = .int .i64 e ∧ (e = 0 → ScOk th cap wd ver gs ps)) ∧ N = [] ∧ H = []) := by
 refine Fn.enter Tryz.func39 (by kernel_rfl) rfl (n := 67) rfl rfl (fun w => ?_)
 have hG : ∀ y ∈ gs, rdE opK y.1 y.2 ∈ rdE zK dv l0 :: rdE zK Pv ps :: nest opK Ov gs := fun y hy => .tail _ (.tail _ (.tail _ ((List.mem_map.2 ⟨y, hy, rfl⟩))))
 have hgo : ∀ j : Nat, j < gs.length → (gE gs (j : Int)).2.length ≤ 1000000000 := fun j hj => hob _ (gE_mem' (by omega))
 refine W ?_
 refine At.box rfl rfl rfl (.t rfl) (fun b1 hb1 => ⟨.all, ?_⟩)
 refine W ?_
 refine cP rfl rfl rfl (.k rfl .nil) rfl (r_IsConf (th := th) (cap := cap) (wd := wd) (ver := ver)) (fun _ h => nomatch h) (fun v N1 H1 hR => ?_); obtain ⟨⟨e, rfl, he⟩, rfl, rfl⟩ := hR; refine ⟨rfl, .all, ?_⟩
 refine Z ?_
 refine At.condN (.t rfl) (fun c1 => ?_) (fun c1 => ?_)
 ·
  refine W ?_
  exact fT rfl (.t rfl) (⟨⟨_, rfl, fun h => absurd h c1⟩, rfl, rfl⟩)
 ·
  refine Z ?_
  refine At.cond (.t rfl) (fun c2 => ?_) (fun c2 => ?_)
  ·
   refine W ?_
   exact fT rfl (.t rfl) (⟨⟨_, rfl, fun h => absurd h (by decide)⟩, rfl, rfl⟩)
  ·
   simp at c2
   refine W ?_
   refine At.loop1 (fun (i : Nat) => i ≤ gs.length ∧ ∀ j : Nat, j < i → (gE gs (j : Int)).2.length ≤ 1000) (fun (i : Nat) => gs.length - i) (fun (i : Nat) => [(1, true, .pointer (some ⟨b1, 0, none⟩)), (4, true, .int .i64 i)]) (fun (i : Nat) => [.blk b1 (.cells #[.int .i64 th, .int .i64 cap, .int .i64 wd, .int .i64 ver, Ov, Pv, dv] 27)]) (fun (i : Nat) => []) (0) ⟨Nat.zero_le _, fun j hj => absurd hj (Nat.not_lt_zero _)⟩ (.cons rfl (.cons rfl .nil)) (List.Sublist.refl _) rfl (fun i hi => ?_)
   obtain ⟨hi1, hi2⟩ := hi
   refine Z ?_
   refine At.condD (.t rfl) (fun c3 => ?_) (fun c3 => ?_)
   ·
    refine U ?_
    refine eA rfl (R.indexRd Tryz.underlying24 sz_75 (.t rfl) (rS M2) (.t rfl) gO) ?_
    refine eA rfl (R.loadRd Tryz.underlying75 rfl (.t rfl) (rS M2) (fun hg => by exact nestGet (by omega))) ?_
    refine eA rfl (R.lenRd Tryz.underlying75 (.t rfl) (by exact nestS hG (by omega))) ?_
    refine eA rfl (R.gtr (.t rfl) .c) ?_
    refine U ?_
    refine At.condD (.t rfl) (fun c4 => ?_) (fun c4 => ?_)
    ·
     refine W ?_
     exact fT rfl (.t rfl) (⟨⟨_, rfl, fun h => absurd h (by decide)⟩, rfl, rfl⟩)
    ·
     have h4 : (gE gs (i : Int)).2.length ≤ 1000 := (by simp at c4; omega)
     refine W ?_
     exact At.again1 (i + 1) ⟨by omega, fun j hj => (by rcases Nat.lt_succ_iff_lt_or_eq.1 hj with h | h; exact hi2 j h; subst h; exact h4)⟩ (by omega) (.cons rfl (.cons rfl .nil)) (List.Sublist.refl _) rfl
   ·
    refine W ?_
    refine At.loop1 (fun (a : Nat) => a ≤ gs.length ∧ ∀ j : Nat, j < a → ∀ z : Nat, z < (gE gs (j : Int)).2.length → OpOk (gE (gE gs (j : Int)).2 (z : Int))) (fun (a : Nat) => gs.length - a) (fun (a : Nat) => [(1, true, .pointer (some ⟨b1, 0, none⟩)), (5, true, .int .i64 a)]) (fun (a : Nat) => [.blk b1 (.cells #[.int .i64 th, .int .i64 cap, .int .i64 wd, .int .i64 ver, Ov, Pv, dv] 27)]) (fun (a : Nat) => []) (0) ⟨Nat.zero_le _, fun j hj => absurd hj (Nat.not_lt_zero _)⟩ (.cons rfl (.cons rfl .nil)) (List.Sublist.refl _) rfl (fun a hi => ?_)
    obtain ⟨ha1, ha2⟩ := hi
    refine Z ?_
    refine At.condD (.t rfl) (fun c5 => ?_) (fun c5 => ?_)
    ·
     refine W ?_
     refine At.loop1 (fun (q : Nat) => q ≤ (gE gs (a : Int)).2.length ∧ ∀ z : Nat, z < q → OpOk (gE (gE gs (a : Int)).2 (z : Int))) (fun (q : Nat) => (gE gs (a : Int)).2.length - q) (fun (q : Nat) => [(1, true, .pointer (some ⟨b1, 0, none⟩)), (5, true, .int .i64 a), (6, true, .int .i64 q)]) (fun (q : Nat) => [.blk b1 (.cells #[.int .i64 th, .int .i64 cap, .int .i64 wd, .int .i64 ver, Ov, Pv, dv] 27)]) (fun (q : Nat) => []) (0) ⟨Nat.zero_le _, fun j hj => absurd hj (Nat.not_lt_zero _)⟩ (.cons rfl (.cons rfl (.cons rfl .nil))) (List.Sublist.refl _) rfl (fun q hi => ?_)
     obtain ⟨hq1, hq2⟩ := hi; have h9 := hgo a (by omega)
     refine U ?_
     refine eA rfl (R.indexRd Tryz.underlying24 sz_75 (.t rfl) (rS M2) (.t rfl) gO) ?_
     refine eA rfl (R.loadRd Tryz.underlying75 rfl (.t rfl) (rS M2) (fun hg => by exact nestGet (by omega))) ?_
     refine eA rfl (R.lenRd Tryz.underlying75 (.t rfl) (by exact nestS hG (by omega))) ?_
     refine eA rfl (R.lss (.t rfl) (.t rfl)) ?_
     refine U ?_
     refine At.condD (.t rfl) (fun c6 => ?_) (fun c6 => ?_)
     ·
      refine U ?_
      refine eA rfl (R.indexRd Tryz.underlying24 sz_75 (.t rfl) (rS M2) (.t rfl) gO) ?_
      refine eA rfl (R.loadRd Tryz.underlying75 rfl (.t rfl) (rS M2) (fun hg => by exact nestGet (by omega))) ?_
      refine U ?_
      refine eA rfl (R.indexRd Tryz.underlying75 sz_110 (.t rfl) (by exact nestS hG (by omega)) (.t rfl) gO) ?_
      refine eA rfl (R.loadRdAgg (us := opK.enc _) Tryz.underlying110 rfl sz_110 (.t rfl) (by exact nestS hG (by omega)) gO (fun hg => by exact Ek.getA (by omega))) ?_
      refine cP rfl rfl rfl (.k rfl .nil) rfl (r_IsOp (o := gE (gE gs (a : Int)).2 (q : Int))) (fun _ h => nomatch h) (fun v N1 H1 hR => ?_); obtain ⟨⟨oe, rfl, hoe⟩, rfl, rfl⟩ := hR; refine ⟨rfl, .all, ?_⟩
      refine Z ?_
      refine At.cond (.t rfl) (fun c7 => ?_) (fun c7 => ?_)
      ·
       refine W ?_
       exact fT rfl (.t rfl) (⟨⟨_, rfl, fun h => absurd h (by decide)⟩, rfl, rfl⟩)
      ·
       have ho7 := hoe (by simpa using c7)
       refine W ?_
       exact At.again1 (q + 1) ⟨by omega, fun z hz => (by rcases Nat.lt_succ_iff_lt_or_eq.1 hz with h | h; exact hq2 z h; subst h; exact ho7)⟩ (by omega) (.cons rfl (.cons rfl (.cons rfl .nil))) (List.Sublist.refl _) rfl
     ·
      refine W ?_
      exact At.again1 (a + 1) ⟨by omega, fun j hj => (by rcases Nat.lt_succ_iff_lt_or_eq.1 hj with h | h; exact ha2 j h; subst h; exact fun z hz => hq2 z (by omega))⟩ (by omega) (.cons rfl (.cons rfl .nil)) (List.Sublist.refl _) rfl
    ·
     refine W ?_
     exact fT rfl (.t rfl) (⟨⟨_, rfl, fun _ => ⟨he (by omega), by omega, by omega, allE fun j hj => hi2 j (by omega), allE fun j hj => allE fun z hz => ha2 j (by omega) z hz⟩⟩, rfl, rfl⟩)
theorem r_NewArena {n : Nat} (h0 : 1 ≤ n ∧ n ≤ 20000) : Fn Tryz.prog 41 [.int .i64 (n : Int)] ([]) ([]) (fun v N H => (∃ ba wv, v = .pointer (some ⟨ba, 0, none⟩) ∧ N = [raB ba wv (rN0 n), raW wv n (rN0 n)]) ∧ H = []) := by
 refine Fn.enter Tryz.func41 (by kernel_rfl) rfl (n := 8) rfl rfl (fun w => ?_)
 refine W ?_
 refine At.callVR rfl rfl rfl (.k rfl (.kc (.kc .nil))) (.nil) (fun hg => (by have e : max 1 (min (n : Int) 20000) = (n : Int) := (by omega); have := r_held (x := (n : Int)) (y := 1) (z := 20000); rw [e] at this; exact this)) .all ?_
 refine At.makeSl (k := zK) (z := 0) rfl rfl rfl Tryz.underlying25 et_3 ze_3 rfl (.t rfl) (.t rfl) (by refine ⟨?_, ?_⟩ <;> first | omega | (simp; omega)) (fun v1 => ⟨.all, ?_⟩)
 refine At.rowOne (v := v1) (M0) (fun h1v => ?_)
 refine eA rfl (R.build (cs := [v1, .int .i64 0, .int .i64 0, .int .i64 0, .int .i64 0, .int .i64 0, .bool false]) bt_59 (.k rfl .nil) (.cons (c := [_]) (cells_one h1v) .nil) rfl) ?_
 refine At.box rfl rfl rfl (.t rfl) (fun b1 hb1 => ⟨.all, ?_⟩)
 refine W ?_
 refine At.re (N' := [raB b1 v1 (rN0 n), raW v1 n (rN0 n)]) (by show [_, Ent.row _ _ _ (List.replicate n (0 : Int)).length _] = _; rw [List.length_replicate]; rfl) ?_
 exact At.final (N' := [raB b1 v1 (rN0 n), raW v1 n (rN0 n)]) rfl (.t rfl) (List.Sublist.refl _) (⟨⟨b1, v1, rfl, rfl⟩, rfl⟩)
theorem r_Make {th cap ver : Int} {n : Nat} (h : ConfOk th cap n ver) : Fn Tryz.prog 73 [.agg #[.int .i64 th, .int .i64 cap, .int .i64 (n : Int), .int .i64 ver]] ([]) ([]) (fun v N H => (∃ ba wv, v = .pointer (some ⟨ba, 0, none⟩) ∧ N = [raB ba wv ((((rN0 n).poke 2 (21 + th + 3 * cap)).poke (7 + th + 0) (-1)).poke (7 + th + 2) (nextD (14 + th) false)), raW wv n ((((rN0 n).poke 2 (21 + th + 3 * cap)).poke (7 + th + 0) (-1)).poke (7 + th + 2) (nextD (14 + th) false))]) ∧ H = []) := by
 refine Fn.enter Tryz.func73 (by kernel_rfl) rfl (n := 25) rfl rfl (fun w => ?_)
 obtain ⟨hk1, hk2, hk3, hk4, hk5⟩ := h
 refine W ?_
 refine At.box rfl rfl rfl (.t rfl) (fun b1 hb1 => ⟨.all, ?_⟩)
 refine W ?_
 refine cP rfl rfl rfl (.k rfl .nil) rfl (r_NewArena (n := n) (by omega)) (fun _ h => nomatch h) (fun v N1 H1 hR => ?_); obtain ⟨⟨ba, wv, rfl, rfl⟩, rfl⟩ := hR; refine ⟨rfl, .all, ?_⟩
 refine W ?_
 refine At.callVR rfl rfl rfl (.k rfl .nil) (.nil) (fun hg => r_Top (by omega) (by omega)) .all ?_
 refine cM rfl rfl rfl (.k rfl (.kc (.k rfl .nil))) rfl (.n (.take (.take .nil))) .nil (r_Poke (r := (rN0 n)) (i := 2) (x := 21 + th + 3 * cap) (List.length_replicate) (by omega)) keysRa .nil ⟨.all, ?_⟩
 refine W ?_
 refine At.callVR rfl rfl rfl (.k rfl .nil) (.nil) (fun hg => r_Head (by omega)) .all ?_
 refine W ?_
 refine cM rfl rfl rfl (.k rfl (.k rfl (.kc .nil))) rfl (.n (.take (.take .nil))) .nil (r_Poke (r := ((rN0 n).poke 2 (21 + th + 3 * cap))) (i := 7 + th + 0) (x := -1) (by (simp only [Rr.poke_len]; exact List.length_replicate)) (by omega)) keysRa .nil ⟨.all, ?_⟩
 refine W ?_
 refine At.drawL ([.blk b1 (.cells _ 23)]) [tt 0, tt 1, tt 4] [ff 2, tt 3, ff 5, ff 6] [ff 7] (keepOf sl) (by kernel_rfl) (by kernel_rfl) ?_
 refine V ?_
 refine At.stage kI ?_
 refine At.callVR rfl rfl rfl (.k rfl .nil) (.nil) (fun hg => r_Head (by omega)) kI ?_
 refine W ?_
 refine At.callVR rfl rfl rfl (.k rfl .nil) (.nil) (fun hg => r_First (by omega)) kI ?_
 refine At.callVR rfl rfl rfl (.k rfl (.kc .nil)) (.nil) (fun hg => r_Next) kI ?_
 refine At.stage kz ?_
 refine cM rfl rfl rfl (.k rfl (.k rfl (.k rfl .nil))) rfl (.n (.take (.take .nil))) .nil (r_Poke (r := (((rN0 n).poke 2 (21 + th + 3 * cap)).poke (7 + th + 0) (-1))) (i := 7 + th + 2) (x := nextD (14 + th) false) (by (simp only [Rr.poke_len]; exact List.length_replicate)) (by omega)) keysRa .nil ⟨kz, ?_⟩
 refine W ?_
 exact At.final (N' := [raB ba wv ((((rN0 n).poke 2 (21 + th + 3 * cap)).poke (7 + th + 0) (-1)).poke (7 + th + 2) (nextD (14 + th) false)), raW wv n ((((rN0 n).poke 2 (21 + th + 3 * cap)).poke (7 + th + 0) (-1)).poke (7 + th + 2) (nextD (14 + th) false))]) rfl (.t rfl) sl (⟨⟨ba, wv, rfl, rfl⟩, rfl⟩)
end Go.Proofs.YtbolanigdkgbdaaGreat
namespace Go.Proofs.YtbolanigdkgbdaaGreat
open Go Go.RowKit
set_option maxRecDepth 10000
set_option linter.unusedVariables false
set_option linter.unnecessarySimpa false
set_option linter.unusedSectionVars false
set_option maxHeartbeats 1000000
theorem bt_85 : buildTab Tryz.prog 85 = some (#[.int .i64 0, .int .i64 0, .int .i64 0, .int .i64 0, .slice none 0 0, .slice none 0 0, .slice none 0 0, .pointer none, .slice none 0 0, .int .i64 0, .int .i64 0, .slice none 0 0, .slice none 0 0], [(0, 7), (7, 1), (8, 1), (9, 1), (10, 1), (11, 1), (12, 1)]) := by kernel_rfl
theorem et_116 : elemTab Tryz.prog 116 = some (6, 48) := by kernel_rfl
theorem sz_27 : (Tryz.prog.info? 27).map (·.size) = some 7 := by kernel_rfl
theorem ze_116 : (Tryz.prog.info? 116).bind (·.zero) = some (.agg #[.int .i64 0, .bool false, .int .i64 0, .pointer none, .pointer none, .pointer none]) := by kernel_rfl
abbrev rMk (n : Nat) (th cap : Int) : Rr := (((rN0 n).poke 2 (21 + th + 3 * cap)).poke (7 + th + 0) (-1)).poke (7 + th + 2) (nextD (14 + th) false)
theorem rMk_okk {n : Nat} {th cap ver : Int} (h : ConfOk th cap n ver) : (rMk n th cap).okk n 0 := by
  have h1 := h.h_th; have h2 := h.h_cap
  exact ((rN0_okk.poke (Bd.sm (by omega))).poke (Bd.sm (by decide))).poke Bd.next
theorem ma_New {th ver : Int} {cap n : Nat} {Ov Pv dv : Value} {gs : opsRows} {ps l0 : List Int} (hgb : gs.length ≤ 1000000000) (hpb : ps.length ≤ 1000000000) (hob : ∀ y ∈ gs, y.2.length ≤ 1000000000) : FnX Tryz.prog 40 [.agg #[.int .i64 th, .int .i64 (cap : Int), .int .i64 (n : Int), .int .i64 ver, Ov, Pv, dv]] (rdE zK dv l0 :: rdE zK Pv ps :: nest opK Ov gs) ([]) (fun v N => (∃ e, v = .tuple #[.pointer none, .int .i64 e] ∧ ¬ e = 0 ∧ N = []) ∨ (ScOk th cap n ver gs ps ∧ ∃ mb ba wv tv, v = .tuple #[.pointer (some ⟨mb, 0, none⟩), .int .i64 0] ∧ N = [maB mb Ov Pv dv ba tv (.slice none 0 0) (.slice none 0 0) (⟨th, cap, (n : Int), ver, 0, 0⟩ : Ma), rowE thK 116 tv (List.replicate th.toNat (default : Th)), raB ba wv (rMk n th (cap : Int)), raW wv n (rMk n th (cap : Int))])) := by
 refine FnX.enter Tryz.func40 (by kernel_rfl) rfl (n := 20) rfl rfl (fun w df hds how => ?_)
 have hG : ∀ y ∈ gs, rdE opK y.1 y.2 ∈ rdE zK dv l0 :: rdE zK Pv ps :: nest opK Ov gs := fun y hy => .tail _ (.tail _ (.tail _ ((List.mem_map.2 ⟨y, hy, rfl⟩))))
 refine W ?_
 refine At.box rfl rfl rfl (.t rfl) (fun b1 hb1 => ⟨.all, ?_⟩)
 refine W ?_
 refine cP rfl rfl rfl (.k rfl .nil) rfl (r_IsScript (th := th) (cap := (cap : Int)) (wd := (n : Int)) (ver := ver) (Ov := Ov) (Pv := Pv) (dv := dv) (gs := gs) (ps := ps) (l0 := l0) hgb hpb hob) (fun e he w hw => hw.hasS e he) (fun v N1 H1 hR => ?_); obtain ⟨⟨e, rfl, he⟩, rfl, rfl⟩ := hR; refine ⟨rfl, .all, ?_⟩
 refine Z ?_
 refine At.condN (.t rfl) (fun c1 => ?_) (fun c1 => ?_)
 ·
  refine W ?_
  exact At.finalX2 (N' := []) hds how rfl (.t rfl) (.t rfl) (List.nil_sublist _) (.inl ⟨_, rfl, c1, rfl⟩)
 ·
  have hok := he (by omega); have hth := hok.conf.h_th
  refine W ?_
  let F14 : Nat → Value → Nat → Fr := fun ba tv mb => [(10, true, .agg #[.int .i64 th, .int .i64 (cap : Int), .int .i64 (n : Int), .int .i64 ver, Ov, Pv, dv]), (11, pt b1 0), (12, true, .agg #[.int .i64 th, .int .i64 (cap : Int), .int .i64 (n : Int), .int .i64 ver]), (13, pt ba 0), (14, pt b1 0), (15, pt b1 0), (16, iv (th.toNat : Int)), (17, true, tv), (18, true, .agg #[.int .i64 th, .int .i64 (cap : Int), .int .i64 (n : Int), .int .i64 ver, Ov, Pv, dv, .pointer (some ⟨ba, 0, none⟩), tv, .int .i64 0, .int .i64 0, .slice none 0 0, .slice none 0 0]), (19, pt mb 0), (2, pt mb 0), (3, iv 0), (1, pt b1 0)]
  refine At.dag [tt 0, tt 1, tt 2, tt 4, tt 5, tt 6] 6 (mF 12 [3, 7, 8, 9, 10, 11]) ([.blk b1 (.cells #[.int .i64 th, .int .i64 (cap : Int), .int .i64 (n : Int), .int .i64 ver, Ov, Pv, dv] 27)]) (keepOf sl) (by kernel_rfl) (by kernel_rfl) (fun G hnode hdone => ?_)
  have g0 : ∀ (ba : Nat) (wv : Value) (tv : Value) (mb : Nat), At w 20 (rdE zK dv l0 :: rdE zK Pv ps :: nest opK Ov gs) (fs (F14 ba tv mb) 8191) ([maB mb Ov Pv dv ba tv (.slice none 0 0) (.slice none 0 0) (⟨th, cap, (n : Int), ver, 0, 0⟩ : Ma), rowE thK 116 tv (List.replicate th.toNat (default : Th)), raB ba wv (rMk n th (cap : Int)), raW wv n (rMk n th (cap : Int)), .blk b1 (.cells #[.int .i64 th, .int .i64 (cap : Int), .int .i64 (n : Int), .int .i64 ver, Ov, Pv, dv] 27)]) ([]) (G 0 (mF 12 [])) := fun ba wv tv mb => by
   refine hdone _ _ _ (by kernel_rfl) ?_
   refine W ?_
   exact At.finalX2 (N' := [maB mb Ov Pv dv ba tv (.slice none 0 0) (.slice none 0 0) (⟨th, cap, (n : Int), ver, 0, 0⟩ : Ma), rowE thK 116 tv (List.replicate th.toNat (default : Th)), raB ba wv (rMk n th (cap : Int)), raW wv n (rMk n th (cap : Int))]) hds how rfl (.t rfl) (.t rfl) sl (.inr ⟨hok, mb, ba, wv, tv, rfl, rfl⟩)
  have g1 : ∀ (ba : Nat) (wv : Value) (tv : Value), At w 20 (rdE zK dv l0 :: rdE zK Pv ps :: nest opK Ov gs) (fs (F14 ba tv 0) 4607) ([rowE thK 116 tv (List.replicate th.toNat (default : Th)), raB ba wv (rMk n th (cap : Int)), raW wv n (rMk n th (cap : Int)), .blk b1 (.cells #[.int .i64 th, .int .i64 (cap : Int), .int .i64 (n : Int), .int .i64 ver, Ov, Pv, dv] 27)]) ([]) (G 3 (mF 12 [9, 10, 11])) := fun ba wv tv => by
   refine hnode _ _ _ _ [(9, [tt 10, tt 11], 0, (mF 12 []))] (by kernel_rfl) kz ?_
   ·
    refine At.box rfl rfl rfl (.t rfl) (fun b2 hb2 => ⟨kz, ?_⟩)
    refine W ?_
    exact wk (g0 ba wv tv b2)
  have g2 : ∀ (ba : Nat) (wv : Value), At w 20 (rdE zK dv l0 :: rdE zK Pv ps :: nest opK Ov gs) (fs (F14 ba .nilFunc 0) 4223) ([raB ba wv (rMk n th (cap : Int)), raW wv n (rMk n th (cap : Int)), .blk b1 (.cells #[.int .i64 th, .int .i64 (cap : Int), .int .i64 (n : Int), .int .i64 ver, Ov, Pv, dv] 27)]) ([]) (G 5 (mF 12 [7, 8, 9, 10, 11])) := fun ba wv => by
   refine hnode _ _ _ _ [(7, [tt 8], 3, (mF 12 [9, 10, 11]))] (by kernel_rfl) kz ?_
   ·
    refine At.makeSl (k := thK) (z := (default : Th)) rfl rfl rfl Tryz.underlying82 et_116 ze_116 rfl (.t rfl) (.t rfl) (by refine ⟨?_, ?_⟩ <;> first | omega | (simp; omega)) (fun v1 => ⟨kz, ?_⟩)
    refine At.rowOne (v := v1) (List.mem_append_right _ M0) (fun h1v => ?_)
    refine sC rfl kz (R.build (cs := [.int .i64 th, .int .i64 (cap : Int), .int .i64 (n : Int), .int .i64 ver, Ov, Pv, dv, .pointer (some ⟨ba, 0, none⟩), v1, .int .i64 0, .int .i64 0, .slice none 0 0, .slice none 0 0]) bt_85 (.k rfl (.k rfl (.k rfl .nil))) (.cons rfl (.cons rfl (.cons (c := [_]) (cells_one h1v) .nil))) rfl) ?_
    refine W ?_
    exact wk (g1 ba wv v1)
  have g3 : ∀ (tv : Value), At w 20 (rdE zK dv l0 :: rdE zK Pv ps :: nest opK Ov gs) (fs (F14 0 tv 0) 4343) ([rowE thK 116 tv (List.replicate th.toNat (default : Th)), .blk b1 (.cells #[.int .i64 th, .int .i64 (cap : Int), .int .i64 (n : Int), .int .i64 ver, Ov, Pv, dv] 27)]) ([]) (G 5 (mF 12 [3, 8, 9, 10, 11])) := fun tv => by
   refine hnode _ _ _ _ [(3, [tt 8], 3, (mF 12 [9, 10, 11]))] (by kernel_rfl) kz ?_
   ·
    refine cP rfl rfl rfl (.k rfl .nil) rfl (r_Make (th := th) (cap := (cap : Int)) (n := n) (ver := ver) hok.conf) (fun _ h => nomatch h) (fun v N1 H1 hR => ?_); obtain ⟨⟨ba, wv, rfl, rfl⟩, rfl⟩ := hR; refine ⟨rfl, kz, ?_⟩
    refine At.rowOne (v := tv) (List.mem_append_right _ M2) (fun h1v => ?_)
    refine sC rfl kz (R.build (cs := [.int .i64 th, .int .i64 (cap : Int), .int .i64 (n : Int), .int .i64 ver, Ov, Pv, dv, .pointer (some ⟨ba, 0, none⟩), tv, .int .i64 0, .int .i64 0, .slice none 0 0, .slice none 0 0]) bt_85 (.k rfl (.k rfl (.k rfl .nil))) (.cons rfl (.cons rfl (.cons (c := [_]) (cells_one h1v) .nil))) rfl) ?_
    refine W ?_
    refine At.perm (N' := [rowE thK 116 tv (List.replicate th.toNat (default : Th)), raB ba wv (rMk n th (cap : Int)), raW wv n (rMk n th (cap : Int)), .blk b1 (.cells #[.int .i64 th, .int .i64 (cap : Int), .int .i64 (n : Int), .int .i64 ver, Ov, Pv, dv] 27)]) ((List.perm_append_comm (l₁ := [_, _]) (l₂ := [_])).append_right [_]) ?_
    exact wk (g1 ba wv tv)
  have g4 : ∀ (_ : True), At w 20 (rdE zK dv l0 :: rdE zK Pv ps :: nest opK Ov gs) (fs (F14 0 .nilFunc 0) 4215) ([.blk b1 (.cells #[.int .i64 th, .int .i64 (cap : Int), .int .i64 (n : Int), .int .i64 ver, Ov, Pv, dv] 27)]) ([]) (G 6 (mF 12 [3, 7, 8, 9, 10, 11])) := fun _ => by
   refine hnode _ _ _ _ [(3, [], 5, (mF 12 [7, 8, 9, 10, 11])), (7, [], 5, (mF 12 [3, 8, 9, 10, 11]))] (by kernel_rfl) kz ?_
   refine ⟨?_, ?_⟩
   ·
    refine cP rfl rfl rfl (.k rfl .nil) rfl (r_Make (th := th) (cap := (cap : Int)) (n := n) (ver := ver) hok.conf) (fun _ h => nomatch h) (fun v N1 H1 hR => ?_); obtain ⟨⟨ba, wv, rfl, rfl⟩, rfl⟩ := hR; refine ⟨rfl, kz, ?_⟩
    refine W ?_
    exact wk (g2 ba wv)
   ·
    refine At.makeSl (k := thK) (z := (default : Th)) rfl rfl rfl Tryz.underlying82 et_116 ze_116 rfl (.t rfl) (.t rfl) (by refine ⟨?_, ?_⟩ <;> first | omega | (simp; omega)) (fun v1 => ⟨kz, ?_⟩)
    refine W ?_
    exact wk (g3 v1)
  refine sC rfl kz (R.loadAgg (vs := [_, _, _, _, _, _, _]) Tryz.underlying27 rfl sz_27 (.t rfl) (csK M0 ⟨rfl, rfl, rfl, rfl, rfl, rfl, rfl, trivial⟩)) ?_
  refine sC rfl kz (R.fieldAddr fo_27_0 (.t rfl)) ?_
  refine sC rfl kz (R.loadAgg (vs := [_, _, _, _]) Tryz.underlying23 rfl sz_23 (.t rfl) (csK M0 ⟨rfl, rfl, rfl, rfl, trivial⟩)) ?_
  refine sC rfl kz (R.fieldAddr fo_27_0 (.t rfl)) ?_
  refine sC rfl kz (R.fieldAddr fo_23_0 (.t rfl)) ?_
  refine At.s rfl rfl rfl rfl (Cl.kept (by (exact keepOf (by (apply List.Sublist.cons; apply List.Sublist.cons; apply List.Sublist.cons; exact List.sublist_append_right _ _))))) (R.as (R.load Tryz.underlying3 rfl (.t rfl) (by exact cK M0 rfl)) (fun _ => congrArg (Value.int .i64) (Int.toNat_of_nonneg (by omega : 0 ≤ th)).symm)) ?_
  refine W ?_
  exact wk (g4 trivial)
end Go.Proofs.YtbolanigdkgbdaaGreat
namespace Go.Proofs.YtbolanigdkgbdaaGreat
open Go Go.RowKit
set_option maxRecDepth 10000
set_option linter.unusedVariables false
set_option linter.unnecessarySimpa false
set_option linter.unusedSectionVars false
set_option maxHeartbeats 1000000
theorem bt_136 : buildTab Tryz.prog 136 = some (#[.int .i64 0, .int .i64 0, .int .i64 0, .int .i64 0, .int .i64 0, .int .i64 0, .int .i64 0, .int .i64 0, .int .i64 0, .int .i64 0, .int .i64 0, .int .i64 0, .int .i64 0, .bool false, .int .i64 0, .int .i64 0, .int .i64 0, .slice none 0 0], [(0, 1), (1, 1), (2, 4), (6, 1), (7, 1), (8, 1), (9, 1), (10, 1), (11, 1), (12, 6)]) := by kernel_rfl
theorem et_136 : elemTab Tryz.prog 136 = some (18, 160) := by kernel_rfl
theorem fo_116_2 : fieldOff? Tryz.prog 116 2 = some 2 := by kernel_rfl
theorem fo_116_3 : fieldOff? Tryz.prog 116 3 = some 3 := by kernel_rfl
theorem fo_116_4 : fieldOff? Tryz.prog 116 4 = some 4 := by kernel_rfl
theorem fo_116_5 : fieldOff? Tryz.prog 116 5 = some 5 := by kernel_rfl
theorem fo_85_3 : fieldOff? Tryz.prog 85 3 = some 9 := by kernel_rfl
theorem sz_112 : (Tryz.prog.info? 112).map (·.size) = some 1 := by kernel_rfl
theorem sz_113 : (Tryz.prog.info? 113).map (·.size) = some 1 := by kernel_rfl
theorem sz_114 : (Tryz.prog.info? 114).map (·.size) = some 1 := by kernel_rfl
theorem sz_83 : (Tryz.prog.info? 83).map (·.size) = some 1 := by kernel_rfl
theorem ze_110 : (Tryz.prog.info? 110).bind (·.zero) = some (.agg #[.int .i64 0, .int .i64 0, .int .i64 0, .int .i64 0]) := by kernel_rfl
theorem ma_begins {k : Nat} {mb ba : Nat} {Ov Pv dv Tv Kv Gv : Value} {x : Ma} {gs : opsRows} {l0 ps : List Int} {a b : List Th} {y : Th} {es : List Evt} (hgl : gs.length ≤ 1000) (hth : 1 ≤ x.th ∧ x.th ≤ 16) (hcap : 1 ≤ x.cap ∧ x.cap ≤ 16) (hwd : 0 ≤ x.wd ∧ x.wd ≤ 1000000) (hal : a.length < 8) (hny : 0 ≤ y.next ∧ y.next < ((opsL gs (a.length : Int)).length : Int)) (hol : (opsL gs (a.length : Int)).length ≤ 1000) (hop : OpOk (gE (opsL gs (a.length : Int)) y.next)) (hys : 0 ≤ y.scans ∧ y.scans ≤ 1000000) (hel : es.length ≤ 800000) (hl0 : l0.length ≤ 1000000000) : FnX Tryz.prog 74 [.pointer (some ⟨mb, 0, none⟩), .int .i64 (a.length : Int)] (rdE zK dv l0 :: rdE zK Pv ps :: nest opK Ov gs) ([maB mb Ov Pv dv ba Tv Kv Gv x, rowE thK 116 Tv (a ++ y :: b), rowE evK 136 Gv es]) (fun v N => ∃ Gv2 ne y2 B, v = .tuple #[] ∧ N = maB mb Ov Pv dv ba Tv Kv Gv2 x :: rowE thK 116 Tv (a ++ y2 :: b) :: rowE evK 136 Gv2 (es ++ [ne]) :: B ∧ ne.thread = (a.length : Int) ∧ ne.index = y.next ∧ ne.steps = 0 ∧ y2.next = y.next + 1 ∧ y2.busy = true ∧ (y2.scans = y.scans ∨ y2.scans = y.scans + 1) ∧ OpM k dv l0 y2 B) := by
 refine FnX.enter Tryz.func74 (by kernel_rfl) rfl (n := 146) rfl rfl (fun w df hds how => ?_)
 have hG : ∀ y ∈ gs, rdE opK y.1 y.2 ∈ rdE zK dv l0 :: rdE zK Pv ps :: nest opK Ov gs := fun y hy => .tail _ (.tail _ (.tail _ ((List.mem_map.2 ⟨y, hy, rfl⟩))))
 have hTb := midB (a := a) (b := b) (x := y)
 have hTp := midP (a := a) (b := b) (x := y)
 have hk := hop.key
 have hto := hop.to_
 refine At.isl (v := Tv) (List.mem_append_right _ M1) hTp (fun hTv => ?_)
 refine W ?_
 let F9 : Nat → Fr := fun ob => [(13, pt mb 0), (14, iv (a.length : Int)), (15, true, opsV gs (a.length : Int)), (16, true, elemPtr Tv ((a.length : Int).toNat * 6)), (17, true, elemPtr Tv ((a.length : Int).toNat * 6)), (18, true, elemPtr Tv ((a.length : Int).toNat * 6 + 0)), (19, iv y.next), (20, true, elemPtr (opsV gs (a.length : Int)) (y.next.toNat * 4)), (21, true, .agg (opK.enc (gE (opsL gs (a.length : Int)) y.next)).toArray), (5, pt ob 0), (0, pt mb 0), (1, iv (a.length : Int)), (4, true, elemPtr Tv ((a.length : Int).toNat * 6))]
 refine At.dag [tt 0, tt 1, tt 3, tt 4, tt 5, tt 6] 5 (mF 11 [2, 7, 8, 9, 10]) ((rdE zK dv l0 :: rdE zK Pv ps :: nest opK Ov gs) ++ ([maB mb Ov Pv dv ba Tv Kv Gv x, rowE thK 116 Tv (a ++ y :: b), rowE evK 136 Gv es] ++ [])) (fun _ h => h) (by kernel_rfl) (by kernel_rfl) (fun G hnode hdone => ?_)
 have g0 : ∀ (ob : Nat), At w 146 (rdE zK dv l0 :: rdE zK Pv ps :: nest opK Ov gs) (fs (F9 ob) 8191) ([.blk ob (.cells #[.int .i64 (gE (opsL gs (a.length : Int)) y.next).kind, .int .i64 (gE (opsL gs (a.length : Int)) y.next).key, .int .i64 (gE (opsL gs (a.length : Int)) y.next).val, .int .i64 (gE (opsL gs (a.length : Int)) y.next).to_] 110), maB mb Ov Pv dv ba Tv Kv Gv x, rowE thK 116 Tv (a ++ y :: b), rowE evK 136 Gv es]) ([]) (G 0 (mF 11 [])) := fun ob => by
  refine hdone _ _ _ (by kernel_rfl) ?_
  refine U ?_
  refine eA rfl (R.nilCheckE (.t rfl) (by assumption)) ?_
  refine eA rfl (R.fieldE fo_116_0 (.t rfl) (by assumption)) ?_
  refine eA rfl (R.loadRd Tryz.underlying3 rfl (.t rfl) (wN M2) (fun hg => by exact Ek.getM rfl)) ?_
  refine At.callVR rfl rfl rfl (.k rfl (.k rfl .nil)) (.nil) (fun hg => r_WriterOf (by omega) (by omega)) .all ?_
  refine W ?_
  refine At.drawM ([.blk ob (.cells #[.int .i64 (gE (opsL gs (a.length : Int)) y.next).kind, .int .i64 (gE (opsL gs (a.length : Int)) y.next).key, .int .i64 (gE (opsL gs (a.length : Int)) y.next).val, .int .i64 (gE (opsL gs (a.length : Int)) y.next).to_] 110), maB mb Ov Pv dv ba Tv Kv Gv x, rowE thK 116 Tv (a ++ y :: b)]) ([]) [tt 0, tt 1, tt 2, tt 3, tt 5, tt 6, tt 11, tt 12, tt 13] [tt 4, tt 7, tt 8, tt 9, tt 10, tt 14, tt 15, ff 16, ff 17] [tt 18, tt 19, ff 20] (by (exact keepOf (by (apply List.Sublist.cons; apply List.Sublist.cons; apply List.Sublist.cons; apply List.sublist_append_of_sublist_right; apply List.Sublist.cons_cons; apply List.Sublist.cons_cons; apply List.Sublist.cons_cons; exact List.nil_sublist _)))) (fun _ h => nomatch h) (by kernel_rfl) (by kernel_rfl) ?_
  refine V ?_
  refine At.stage kz ?_
  refine U ?_
  refine sC rfl kz (R.nilCheckE (.t rfl) (by assumption)) ?_
  refine sC rfl kz (R.fieldE fo_116_0 (.t rfl) (by assumption)) ?_
  refine sC rfl kz (R.loadRd Tryz.underlying3 rfl (.t rfl) (wK M2) (fun hg => by exact Ek.getM rfl)) ?_
  refine sC rfl kz (R.loadAgg (vs := [_, _, _, _]) Tryz.underlying110 rfl sz_110 (.t rfl) (csK M0 ⟨rfl, rfl, rfl, rfl, trivial⟩)) ?_
  refine U ?_
  refine sC rfl kz (R.build bt_136 (.k rfl (.k rfl (.k rfl (.k rfl (.kc (.cons .c (.kc (.kc .nil)))))))) (.cons rfl (.cons rfl (.cons rfl (.cons rfl (.cons rfl (.cons rfl (.cons rfl (.cons rfl .nil)))))))) rfl) ?_
  refine At.lit (k := evK) rfl rfl rfl Tryz.underlying83 et_136 (.cons (.t rfl) .nil) (.cons (y := (⟨(a.length : Int), y.next, (gE (opsL gs (a.length : Int)) y.next), x.now, -1, 0, -1, -1, -1, ⟨0, false, 0, 0, 0⟩, ⟨.slice none 0 0, rfl⟩⟩ : Evt)) rfl .nil) rfl rfl rfl (fun v1 => ⟨(Cl.kept (by (exact keepOf (by (apply List.Sublist.cons; apply List.Sublist.cons; apply List.Sublist.cons; apply List.sublist_append_of_sublist_right; apply List.Sublist.cons; apply List.Sublist.cons_cons; apply List.Sublist.cons_cons; apply List.Sublist.cons_cons; exact List.nil_sublist _))))), ?_⟩)
  refine At.app (k := evK) rfl rfl rfl Tryz.underlying83 et_136 (.t rfl) (.t rfl) (fun _ => by (exact U4)) (wN M0) (by (simp <;> omega)) (fun v2 => ⟨kz, ?_⟩)
  refine At.stage Cl.none ?_
  refine W ?_
  refine At.rowOne (v := v2) (List.mem_append_right _ M4) (fun h1v => ?_)
  refine At.st1 rfl rfl sz_83 (.t rfl) (.t rfl) h1v rfl (.n U2) ⟨Cl.none, ?_⟩
  refine At.nil ?_
  refine At.tN ?_
  refine At.seq ?_
  refine At.fewer (N1 := [.blk ob (.cells #[.int .i64 (gE (opsL gs (a.length : Int)) y.next).kind, .int .i64 (gE (opsL gs (a.length : Int)) y.next).key, .int .i64 (gE (opsL gs (a.length : Int)) y.next).val, .int .i64 (gE (opsL gs (a.length : Int)) y.next).to_] 110), maB mb Ov Pv dv ba Tv Kv v2 x, rowE thK 116 Tv (a ++ y :: b), rowE evK 136 v2 (es ++ [(⟨(a.length : Int), y.next, (gE (opsL gs (a.length : Int)) y.next), x.now, -1, 0, -1, -1, -1, ⟨0, false, 0, 0, 0⟩, ⟨.slice none 0 0, rfl⟩⟩ : Evt)])]) sl (permOf [_, _, _, _] [0, 1, 2, 3] [1, 2, 3, 0] rfl []) ?_
  refine At.re (N' := [maB mb Ov Pv dv ba Tv Kv v2 x, rowE thK 116 Tv (a ++ y :: b), rowE evK 136 v2 (es ++ [(⟨(a.length : Int), y.next, (gE (opsL gs (a.length : Int)) y.next), x.now, -1, 0, -1, -1, -1, ⟨0, false, 0, 0, 0⟩, ⟨.slice none 0 0, rfl⟩⟩ : Evt)]), .blk ob (.cells #[.int .i64 (gE (opsL gs (a.length : Int)) y.next).kind, .int .i64 (gE (opsL gs (a.length : Int)) y.next).key, .int .i64 (gE (opsL gs (a.length : Int)) y.next).val, .int .i64 (gE (opsL gs (a.length : Int)) y.next).to_] 110)]) rfl ?_
  refine At.plain [ff 0, ff 1, ff 2, ff 3, ff 4, ff 5, ff 6, ff 7, ff 8, ff 9, ff 10, ff 11, ff 12] rfl ?_
  refine eA rfl (R.move (.t rfl)) ?_
  refine eA rfl (R.move (.t rfl)) ?_
  refine eA rfl (R.move (.t rfl)) ?_
  refine eA rfl (R.nilCheckE (.t rfl) (by assumption)) ?_
  refine eA rfl (R.fieldE fo_116_0 (.t rfl) (by assumption)) ?_
  refine eA rfl (R.loadRd Tryz.underlying3 rfl (.t rfl) (wN M1) (fun hg => by exact Ek.getM rfl)) ?_
  refine eA rfl (R.addI (.t rfl) .c gO) ?_
  refine eA rfl (R.nilCheckE (.t rfl) (by assumption)) ?_
  refine eA rfl (R.fieldE fo_116_1 (.t rfl) (by assumption)) ?_
  refine At.stFld (k := thK) 1 (⟨y.next, true, y.scans, y.p, y.g, y.s⟩ : Th) [.bool true] rfl rfl sz_4 (.t rfl) .c rfl rfl (Nat.le_of_ble_eq_true rfl) (.n U1) rfl ⟨.all, ?_⟩
  refine W ?_
  refine At.stFld (k := thK) 0 (⟨y.next + 1, true, y.scans, y.p, y.g, y.s⟩ : Th) [.int .i64 (y.next + 1)] rfl rfl sz_3 (.t rfl) (.t rfl) rfl rfl (Nat.le_of_ble_eq_true rfl) (.n U1) rfl ⟨.all, ?_⟩
  refine W ?_
  refine At.stFld (k := thK) 3 (⟨y.next + 1, true, y.scans, none, y.g, y.s⟩ : Th) [.pointer none] rfl rfl sz_112 (.t rfl) .c rfl rfl (Nat.le_of_ble_eq_true rfl) (.n U1) rfl ⟨.all, ?_⟩
  refine W ?_
  refine At.stFld (k := thK) 4 (⟨y.next + 1, true, y.scans, none, none, y.s⟩ : Th) [.pointer none] rfl rfl sz_113 (.t rfl) .c rfl rfl (Nat.le_of_ble_eq_true rfl) (.n U1) rfl ⟨.all, ?_⟩
  refine W ?_
  refine At.stFld (k := thK) 5 (⟨y.next + 1, true, y.scans, none, none, none⟩ : Th) [.pointer none] rfl rfl sz_114 (.t rfl) .c rfl rfl (Nat.le_of_ble_eq_true rfl) (.n U1) rfl ⟨.all, ?_⟩
  refine Z ?_
  refine At.condD (.t rfl) (fun c1 => ?_) (fun c1 => ?_)
  ·
   refine At.drawM ([maB mb Ov Pv dv ba Tv Kv v2 x, rowE thK 116 Tv (a ++ (⟨y.next + 1, true, y.scans, none, none, none⟩ : Th) :: b), rowE evK 136 v2 (es ++ [(⟨(a.length : Int), y.next, (gE (opsL gs (a.length : Int)) y.next), x.now, -1, 0, -1, -1, -1, ⟨0, false, 0, 0, 0⟩, ⟨.slice none 0 0, rfl⟩⟩ : Evt)]), .blk ob (.cells #[.int .i64 (gE (opsL gs (a.length : Int)) y.next).kind, .int .i64 (gE (opsL gs (a.length : Int)) y.next).key, .int .i64 (gE (opsL gs (a.length : Int)) y.next).val, .int .i64 (gE (opsL gs (a.length : Int)) y.next).to_] 110)]) ([]) [tt 0, tt 1, tt 2, tt 3, tt 4, tt 6, tt 8, tt 9, tt 12, tt 13] [tt 5, tt 7, tt 10, ff 11, ff 14, ff 15] [tt 16, tt 17, ff 18] (keepOf sl) (fun _ h => nomatch h) (by kernel_rfl) (by kernel_rfl) ?_
   refine V ?_
   refine At.stage kz ?_
   refine W ?_
   refine At.callVR rfl rfl rfl (.k rfl (.k rfl .nil)) (.nil) (fun hg => r_Data) kz ?_
   refine cP rfl rfl rfl (.k rfl (.k rfl .nil)) rfl (ma_draws (x := x) (Tv := Tv) (Kv := Kv) (Gv := v2) (wr := ((a.length : Int) * 1000 + y.next)) (l0 := l0) (by omega) hl0) (Rds.all (.blk (.st (List.mem_append_right _ M0)) (.cons (rS M0) .nil))) (fun Dv N1 H1 hR => ?_); obtain ⟨⟨dl, hD⟩, rfl, rfl⟩ := hR; refine ⟨rfl, kz, ?_⟩
   refine cX rfl rfl rfl (.k rfl (.k rfl (.k rfl (.k rfl .nil)))) rfl .nil (.cons (rS M0) .nil) (pu_NewS (k := k) (th := x.th) (wd := x.wd) (ver := x.ver) (cap := x.cap) (key := (gE (opsL gs (a.length : Int)) y.next).key) (data := dataD ((a.length : Int) * 1000 + y.next) (gE (opsL gs (a.length : Int)) y.next).val) hD (by omega) (by omega) (by omega) (by omega) Bd.data) (Aprt.sub1 (mem1 (.head _)) .nil) (fun v B hR => ?_); obtain ⟨pu, rfl, hP⟩ := hR; refine ⟨(Cl.keptB (keepOf (List.Sublist.refl _))), ?_⟩; refine At.perm List.perm_append_comm ?_; refine At.re (N' := maB mb Ov Pv dv ba Tv Kv v2 x :: rowE thK 116 Tv (a ++ (⟨y.next + 1, true, y.scans, none, none, none⟩ : Th) :: b) :: rowE evK 136 v2 (es ++ [(⟨(a.length : Int), y.next, (gE (opsL gs (a.length : Int)) y.next), x.now, -1, 0, -1, -1, -1, ⟨0, false, 0, 0, 0⟩, ⟨.slice none 0 0, rfl⟩⟩ : Evt)]) :: .blk ob (.cells #[.int .i64 (gE (opsL gs (a.length : Int)) y.next).kind, .int .i64 (gE (opsL gs (a.length : Int)) y.next).key, .int .i64 (gE (opsL gs (a.length : Int)) y.next).val, .int .i64 (gE (opsL gs (a.length : Int)) y.next).to_] 110) :: B) rfl ?_
   refine At.stage Cl.none ?_
   refine W ?_
   refine At.stFld (k := thK) 3 (⟨y.next + 1, true, y.scans, some pu, none, none⟩ : Th) [.pointer (some ⟨pu, 0, none⟩)] rfl rfl sz_112 (.t rfl) (.t rfl) rfl rfl (Nat.le_of_ble_eq_true rfl) (.n U1) rfl ⟨Cl.none, ?_⟩
   refine W ?_
   exact At.finalX0 (N' := maB mb Ov Pv dv ba Tv Kv v2 x :: rowE thK 116 Tv (a ++ (⟨y.next + 1, true, y.scans, some pu, none, none⟩ : Th) :: b) :: rowE evK 136 v2 (es ++ [(⟨(a.length : Int), y.next, (gE (opsL gs (a.length : Int)) y.next), x.now, -1, 0, -1, -1, -1, ⟨0, false, 0, 0, 0⟩, ⟨.slice none 0 0, rfl⟩⟩ : Evt)]) :: B) hds how rfl sl (⟨_, _, _, _, rfl, rfl, rfl, rfl, rfl, rfl, rfl, .inl rfl, .inl ⟨pu, rfl, hP⟩⟩) _ (.inr rfl)
  ·
   refine Z ?_
   refine At.condD (.t rfl) (fun c2 => ?_) (fun c2 => ?_)
   ·
    refine At.drawM ([maB mb Ov Pv dv ba Tv Kv v2 x, rowE thK 116 Tv (a ++ (⟨y.next + 1, true, y.scans, none, none, none⟩ : Th) :: b), rowE evK 136 v2 (es ++ [(⟨(a.length : Int), y.next, (gE (opsL gs (a.length : Int)) y.next), x.now, -1, 0, -1, -1, -1, ⟨0, false, 0, 0, 0⟩, ⟨.slice none 0 0, rfl⟩⟩ : Evt)]), .blk ob (.cells #[.int .i64 (gE (opsL gs (a.length : Int)) y.next).kind, .int .i64 (gE (opsL gs (a.length : Int)) y.next).key, .int .i64 (gE (opsL gs (a.length : Int)) y.next).val, .int .i64 (gE (opsL gs (a.length : Int)) y.next).to_] 110)]) ([]) [tt 0, tt 1, tt 2, tt 3, tt 4, tt 6, tt 8, tt 10, tt 11] [tt 5, tt 7, ff 9, ff 12, ff 13] [tt 14, tt 15, ff 16] (keepOf sl) (fun _ h => nomatch h) (by kernel_rfl) (by kernel_rfl) ?_
    refine V ?_
    refine At.stage kz ?_
    refine W ?_
    refine At.callVR rfl rfl rfl (.k rfl (.kc .nil)) (.nil) (fun hg => r_Data) kz ?_
    refine cP rfl rfl rfl (.k rfl (.k rfl .nil)) rfl (ma_draws (x := x) (Tv := Tv) (Kv := Kv) (Gv := v2) (wr := ((a.length : Int) * 1000 + y.next)) (l0 := l0) (by omega) hl0) (Rds.all (.blk (.st (List.mem_append_right _ M0)) (.cons (rS M0) .nil))) (fun Dv N1 H1 hR => ?_); obtain ⟨⟨dl, hD⟩, rfl, rfl⟩ := hR; refine ⟨rfl, kz, ?_⟩
    refine cX rfl rfl rfl (.k rfl (.k rfl (.k rfl (.k rfl .nil)))) rfl .nil (.cons (rS M0) .nil) (pu_NewS (k := k) (th := x.th) (wd := x.wd) (ver := x.ver) (cap := x.cap) (key := (gE (opsL gs (a.length : Int)) y.next).key) (data := dataD ((a.length : Int) * 1000 + y.next) (-1)) hD (by omega) (by omega) (by omega) (by omega) Bd.data) (Aprt.sub1 (mem1 (.head _)) .nil) (fun v B hR => ?_); obtain ⟨pu, rfl, hP⟩ := hR; refine ⟨(Cl.keptB (keepOf (List.Sublist.refl _))), ?_⟩; refine At.perm List.perm_append_comm ?_; refine At.re (N' := maB mb Ov Pv dv ba Tv Kv v2 x :: rowE thK 116 Tv (a ++ (⟨y.next + 1, true, y.scans, none, none, none⟩ : Th) :: b) :: rowE evK 136 v2 (es ++ [(⟨(a.length : Int), y.next, (gE (opsL gs (a.length : Int)) y.next), x.now, -1, 0, -1, -1, -1, ⟨0, false, 0, 0, 0⟩, ⟨.slice none 0 0, rfl⟩⟩ : Evt)]) :: .blk ob (.cells #[.int .i64 (gE (opsL gs (a.length : Int)) y.next).kind, .int .i64 (gE (opsL gs (a.length : Int)) y.next).key, .int .i64 (gE (opsL gs (a.length : Int)) y.next).val, .int .i64 (gE (opsL gs (a.length : Int)) y.next).to_] 110) :: B) rfl ?_
    refine At.stage Cl.none ?_
    refine W ?_
    refine At.stFld (k := thK) 3 (⟨y.next + 1, true, y.scans, some pu, none, none⟩ : Th) [.pointer (some ⟨pu, 0, none⟩)] rfl rfl sz_112 (.t rfl) (.t rfl) rfl rfl (Nat.le_of_ble_eq_true rfl) (.n U1) rfl ⟨Cl.none, ?_⟩
    refine W ?_
    exact At.finalX0 (N' := maB mb Ov Pv dv ba Tv Kv v2 x :: rowE thK 116 Tv (a ++ (⟨y.next + 1, true, y.scans, some pu, none, none⟩ : Th) :: b) :: rowE evK 136 v2 (es ++ [(⟨(a.length : Int), y.next, (gE (opsL gs (a.length : Int)) y.next), x.now, -1, 0, -1, -1, -1, ⟨0, false, 0, 0, 0⟩, ⟨.slice none 0 0, rfl⟩⟩ : Evt)]) :: B) hds how rfl sl (⟨_, _, _, _, rfl, rfl, rfl, rfl, rfl, rfl, rfl, .inl rfl, .inl ⟨pu, rfl, hP⟩⟩) _ (.inr rfl)
   ·
    refine Z ?_
    refine At.condD (.t rfl) (fun c3 => ?_) (fun c3 => ?_)
    ·
     refine At.drawM ([maB mb Ov Pv dv ba Tv Kv v2 x, rowE thK 116 Tv (a ++ (⟨y.next + 1, true, y.scans, none, none, none⟩ : Th) :: b), rowE evK 136 v2 (es ++ [(⟨(a.length : Int), y.next, (gE (opsL gs (a.length : Int)) y.next), x.now, -1, 0, -1, -1, -1, ⟨0, false, 0, 0, 0⟩, ⟨.slice none 0 0, rfl⟩⟩ : Evt)]), .blk ob (.cells #[.int .i64 (gE (opsL gs (a.length : Int)) y.next).kind, .int .i64 (gE (opsL gs (a.length : Int)) y.next).key, .int .i64 (gE (opsL gs (a.length : Int)) y.next).val, .int .i64 (gE (opsL gs (a.length : Int)) y.next).to_] 110)]) ([]) [tt 0, tt 1, tt 2, tt 3, tt 4, tt 6] [tt 5, tt 7, ff 8] [tt 9, tt 10, ff 11] (keepOf sl) (fun _ h => nomatch h) (by kernel_rfl) (by kernel_rfl) ?_
     refine V ?_
     refine At.stage kz ?_
     refine W ?_
     refine cP rfl rfl rfl (.k rfl (.k rfl .nil)) rfl (dg_New (a := x.th) (b := (x.cap : Int)) (c := x.wd) (d := x.ver) (key := (gE (opsL gs (a.length : Int)) y.next).key)) (fun _ h => nomatch h) (fun v N1 H1 hR => ?_); obtain ⟨bg, bw, rfl, rfl, rfl⟩ := hR; refine ⟨rfl, kz, ?_⟩; refine At.perm List.perm_append_comm ?_; refine At.re (N' := maB mb Ov Pv dv ba Tv Kv v2 x :: rowE thK 116 Tv (a ++ (⟨y.next + 1, true, y.scans, none, none, none⟩ : Th) :: b) :: rowE evK 136 v2 (es ++ [(⟨(a.length : Int), y.next, (gE (opsL gs (a.length : Int)) y.next), x.now, -1, 0, -1, -1, -1, ⟨0, false, 0, 0, 0⟩, ⟨.slice none 0 0, rfl⟩⟩ : Evt)]) :: .blk ob (.cells #[.int .i64 (gE (opsL gs (a.length : Int)) y.next).kind, .int .i64 (gE (opsL gs (a.length : Int)) y.next).key, .int .i64 (gE (opsL gs (a.length : Int)) y.next).val, .int .i64 (gE (opsL gs (a.length : Int)) y.next).to_] 110) :: [dgB bg x.th (x.cap : Int) x.wd x.ver (gE (opsL gs (a.length : Int)) y.next).key bw none false, dwB bw (⟨x.th, (x.cap : Int), x.wd, x.ver, (gE (opsL gs (a.length : Int)) y.next).key, 1, 0, 0, 0, 0⟩ : Dw)]) rfl ?_
     refine At.stage Cl.none ?_
     refine W ?_
     refine At.stFld (k := thK) 4 (⟨y.next + 1, true, y.scans, none, some bg, none⟩ : Th) [.pointer (some ⟨bg, 0, none⟩)] rfl rfl sz_113 (.t rfl) (.t rfl) rfl rfl (Nat.le_of_ble_eq_true rfl) (.n U1) rfl ⟨Cl.none, ?_⟩
     refine W ?_
     exact At.finalX0 (N' := maB mb Ov Pv dv ba Tv Kv v2 x :: rowE thK 116 Tv (a ++ (⟨y.next + 1, true, y.scans, none, some bg, none⟩ : Th) :: b) :: rowE evK 136 v2 (es ++ [(⟨(a.length : Int), y.next, (gE (opsL gs (a.length : Int)) y.next), x.now, -1, 0, -1, -1, -1, ⟨0, false, 0, 0, 0⟩, ⟨.slice none 0 0, rfl⟩⟩ : Evt)]) :: [dgB bg x.th (x.cap : Int) x.wd x.ver (gE (opsL gs (a.length : Int)) y.next).key bw none false, dwB bw (⟨x.th, (x.cap : Int), x.wd, x.ver, (gE (opsL gs (a.length : Int)) y.next).key, 1, 0, 0, 0, 0⟩ : Dw)]) hds how rfl sl (⟨_, _, _, _, rfl, rfl, rfl, rfl, rfl, rfl, rfl, .inl rfl, .inr (.inl ⟨rfl, bg, rfl, ge_New (by omega) (by omega) (by omega)⟩)⟩) _ (.inr rfl)
    ·
     refine U ?_
     refine eA rfl (R.nilCheckE (.t rfl) (by assumption)) ?_
     refine eA rfl (R.fieldE fo_116_2 (.t rfl) (by assumption)) ?_
     refine eA rfl (R.loadRd Tryz.underlying3 rfl (.t rfl) (wN M1) (fun hg => by exact Ek.getM rfl)) ?_
     refine eA rfl (R.addI (.t rfl) .c (fun hg => by dsimp only; omega)) ?_
     refine eA rfl (R.nilCheckE (.t rfl) (by assumption)) ?_
     refine eA rfl (R.fieldE fo_116_2 (.t rfl) (by assumption)) ?_
     refine At.stFld (k := thK) 2 (⟨y.next + 1, true, y.scans + 1, none, none, none⟩ : Th) [.int .i64 (y.scans + 1)] rfl rfl sz_3 (.t rfl) (.t rfl) rfl rfl (Nat.le_of_ble_eq_true rfl) (.n U1) rfl ⟨.all, ?_⟩
     refine W ?_
     refine At.drawM ([maB mb Ov Pv dv ba Tv Kv v2 x, rowE thK 116 Tv (a ++ (⟨y.next + 1, true, y.scans + 1, none, none, none⟩ : Th) :: b), rowE evK 136 v2 (es ++ [(⟨(a.length : Int), y.next, (gE (opsL gs (a.length : Int)) y.next), x.now, -1, 0, -1, -1, -1, ⟨0, false, 0, 0, 0⟩, ⟨.slice none 0 0, rfl⟩⟩ : Evt)]), .blk ob (.cells #[.int .i64 (gE (opsL gs (a.length : Int)) y.next).kind, .int .i64 (gE (opsL gs (a.length : Int)) y.next).key, .int .i64 (gE (opsL gs (a.length : Int)) y.next).val, .int .i64 (gE (opsL gs (a.length : Int)) y.next).to_] 110)]) ([]) [tt 0, tt 1, tt 2, tt 3, tt 4, tt 6, tt 7, tt 11, tt 13] [tt 5, tt 8, tt 9, tt 10, tt 12, tt 14, ff 15] [tt 16, tt 17, ff 18] (keepOf sl) (fun _ h => nomatch h) (by kernel_rfl) (by kernel_rfl) ?_
     refine V ?_
     refine At.stage kz ?_
     refine W ?_
     refine cP rfl rfl rfl (.k rfl (.k rfl (.k rfl (.k rfl (.k rfl .nil))))) rfl (ds_New (a := x.th) (b := (x.cap : Int)) (c := x.wd) (d := x.ver) (t := (a.length : Int)) (seq := y.scans + 1) (lo := (gE (opsL gs (a.length : Int)) y.next).key) (hi := (gE (opsL gs (a.length : Int)) y.next).to_)) (fun _ h => nomatch h) (fun v N1 H1 hR => ?_); obtain ⟨bs, kp, rfl, rfl, rfl⟩ := hR; refine ⟨rfl, kz, ?_⟩; refine At.nilRow iK 43 ?_; refine At.perm (permOf [_, _, _, _, _, _, _] [0, 1, 2, 3, 4, 5, 6] [3, 4, 5, 6, 1, 2, 0] rfl []) ?_; refine At.re (N' := maB mb Ov Pv dv ba Tv Kv v2 x :: rowE thK 116 Tv (a ++ (⟨y.next + 1, true, y.scans + 1, none, none, none⟩ : Th) :: b) :: rowE evK 136 v2 (es ++ [(⟨(a.length : Int), y.next, (gE (opsL gs (a.length : Int)) y.next), x.now, -1, 0, -1, -1, -1, ⟨0, false, 0, 0, 0⟩, ⟨.slice none 0 0, rfl⟩⟩ : Evt)]) :: .blk ob (.cells #[.int .i64 (gE (opsL gs (a.length : Int)) y.next).kind, .int .i64 (gE (opsL gs (a.length : Int)) y.next).key, .int .i64 (gE (opsL gs (a.length : Int)) y.next).val, .int .i64 (gE (opsL gs (a.length : Int)) y.next).to_] 110) :: [dsB bs kp none none (.slice none 0 0) (⟨x.th, (x.cap : Int), x.wd, x.ver, (a.length : Int), y.scans + 1, (gE (opsL gs (a.length : Int)) y.next).key, (gE (opsL gs (a.length : Int)) y.next).to_, 10, 0, 0⟩ : Ds), dcB kp (⟨x.th, (x.cap : Int), x.wd, x.ver, (a.length : Int), y.scans + 1, 1, 0, 0, 0⟩ : Dc), rowE iK 43 (.slice none 0 0) []]) rfl ?_
     refine At.stage Cl.none ?_
     refine W ?_
     refine At.stFld (k := thK) 5 (⟨y.next + 1, true, y.scans + 1, none, none, some bs⟩ : Th) [.pointer (some ⟨bs, 0, none⟩)] rfl rfl sz_114 (.t rfl) (.t rfl) rfl rfl (Nat.le_of_ble_eq_true rfl) (.n U1) rfl ⟨Cl.none, ?_⟩
     refine W ?_
     exact At.finalX0 (N' := maB mb Ov Pv dv ba Tv Kv v2 x :: rowE thK 116 Tv (a ++ (⟨y.next + 1, true, y.scans + 1, none, none, some bs⟩ : Th) :: b) :: rowE evK 136 v2 (es ++ [(⟨(a.length : Int), y.next, (gE (opsL gs (a.length : Int)) y.next), x.now, -1, 0, -1, -1, -1, ⟨0, false, 0, 0, 0⟩, ⟨.slice none 0 0, rfl⟩⟩ : Evt)]) :: [dsB bs kp none none (.slice none 0 0) (⟨x.th, (x.cap : Int), x.wd, x.ver, (a.length : Int), y.scans + 1, (gE (opsL gs (a.length : Int)) y.next).key, (gE (opsL gs (a.length : Int)) y.next).to_, 10, 0, 0⟩ : Ds), dcB kp (⟨x.th, (x.cap : Int), x.wd, x.ver, (a.length : Int), y.scans + 1, 1, 0, 0, 0⟩ : Dc), rowE iK 43 (.slice none 0 0) []]) hds how rfl sl (⟨_, _, _, _, rfl, rfl, rfl, rfl, rfl, rfl, rfl, .inr rfl, .inr (.inr ⟨rfl, rfl, bs, rfl, sc_New (by omega) (by omega) (by omega) (by omega)⟩)⟩) _ (.inr rfl)
 have g1 : ∀ (ob : Nat), At w 146 (rdE zK dv l0 :: rdE zK Pv ps :: nest opK Ov gs) (fs (F9 ob) 8191) ([.blk ob (.cells #[.int .i64 0, .int .i64 0, .int .i64 0, .int .i64 0] 110), maB mb Ov Pv dv ba Tv Kv Gv x, rowE thK 116 Tv (a ++ y :: b), rowE evK 136 Gv es]) ([]) (G 1 (mF 11 [10])) := fun ob => by
  refine hnode _ _ _ _ [(10, [], 0, (mF 11 []))] (by kernel_rfl) kz ?_
  ·
   refine At.stN rfl rfl sz_110 (.t rfl) (.t rfl) rfl rfl rfl (.n U0) ⟨kz, ?_⟩
   refine W ?_
   exact wk (g0 ob)
 have g2 : ∀ (_ : True), At w 146 (rdE zK dv l0 :: rdE zK Pv ps :: nest opK Ov gs) (fs (F9 0) 7679) ([maB mb Ov Pv dv ba Tv Kv Gv x, rowE thK 116 Tv (a ++ y :: b), rowE evK 136 Gv es]) ([]) (G 2 (mF 11 [9, 10])) := fun _ => by
  refine hnode _ _ _ _ [(9, [], 1, (mF 11 [10]))] (by kernel_rfl) kI ?_
  ·
   refine At.alloc rfl rfl rfl ze_110 (fun b1 hb1 => ⟨kz, ?_⟩)
   refine W ?_
   exact wk (g1 b1)
 have g3 : ∀ (ob : Nat), At w 146 (rdE zK dv l0 :: rdE zK Pv ps :: nest opK Ov gs) (fs (F9 ob) 7803) ([.blk ob (.cells #[.int .i64 0, .int .i64 0, .int .i64 0, .int .i64 0] 110), maB mb Ov Pv dv ba Tv Kv Gv x, rowE thK 116 Tv (a ++ y :: b), rowE evK 136 Gv es]) ([]) (G 4 (mF 11 [2, 7, 8, 10])) := fun ob => by
  refine hnode _ _ _ _ [(2, [tt 7, tt 8], 1, (mF 11 [10]))] (by kernel_rfl) kz ?_
  ·
   refine At.callVR rfl rfl rfl (.k rfl (.k rfl .nil)) (.blk (.st (List.mem_append_right _ M1)) (.ofNest (rS M2) (fun y hy => rS (by simp only [List.mem_append]; exact .inl (hG y hy))))) (fun hg => ma_ops (t := (a.length : Int)) (gs := gs) hgl) kz ?_
   refine sC rfl kz (R.indexRd Tryz.underlying75 sz_110 (.t rfl) (opsRd (a.length : Int) (fun y hy => rK (by simp only [List.mem_append]; exact .inl (hG y hy)))) (.t rfl) gO) ?_
   refine sC rfl kz (R.loadRdAgg (us := opK.enc _) Tryz.underlying110 rfl sz_110 (.t rfl) (opsRd (a.length : Int) (fun y hy => rK (by simp only [List.mem_append]; exact .inl (hG y hy)))) gO (fun hg => by exact Ek.getA (by omega))) ?_
   refine W ?_
   exact wk (g1 ob)
 have g4 : ∀ (_ : True), At w 146 (rdE zK dv l0 :: rdE zK Pv ps :: nest opK Ov gs) (fs (F9 0) 7291) ([maB mb Ov Pv dv ba Tv Kv Gv x, rowE thK 116 Tv (a ++ y :: b), rowE evK 136 Gv es]) ([]) (G 5 (mF 11 [2, 7, 8, 9, 10])) := fun _ => by
  refine hnode _ _ _ _ [(2, [tt 7, tt 8], 2, (mF 11 [9, 10])), (9, [], 4, (mF 11 [2, 7, 8, 10]))] (by kernel_rfl) kI ?_
  refine ⟨?_, ?_⟩
  ·
   refine At.callVR rfl rfl rfl (.k rfl (.k rfl .nil)) (.blk (.st (List.mem_append_right _ M0)) (.ofNest (rS M2) (fun y hy => rS (by simp only [List.mem_append]; exact .inl (hG y hy))))) (fun hg => ma_ops (t := (a.length : Int)) (gs := gs) hgl) kI ?_
   refine sJ rfl (R.indexRd Tryz.underlying75 sz_110 (.t rfl) (opsRd (a.length : Int) (fun y hy => rK (by simp only [List.mem_append]; exact .inl (hG y hy)))) (.t rfl) gO) ?_
   refine sJ rfl (R.loadRdAgg (us := opK.enc _) Tryz.underlying110 rfl sz_110 (.t rfl) (opsRd (a.length : Int) (fun y hy => rK (by simp only [List.mem_append]; exact .inl (hG y hy)))) gO (fun hg => by exact Ek.getA (by omega))) ?_
   refine W ?_
   exact wk (g2 trivial)
  ·
   refine At.alloc rfl rfl rfl ze_110 (fun b1 hb1 => ⟨kz, ?_⟩)
   refine W ?_
   exact wk (g3 b1)
 refine U ?_
 refine sJ rfl (R.nilCheckE (.t rfl) (by assumption)) ?_
 refine sJ rfl (R.fieldE fo_116_0 (.t rfl) (by assumption)) ?_
 refine sJ rfl (R.loadRd Tryz.underlying3 rfl (.t rfl) (wKN M1) (fun hg => by exact Ek.getM rfl)) ?_
 refine U ?_
 exact wk (g4 trivial)
end Go.Proofs.YtbolanigdkgbdaaGreat
namespace Go.Proofs.YtbolanigdkgbdaaGreat
open Go Go.RowKit
set_option linter.unusedVariables false
set_option linter.unusedSectionVars false
abbrev Evt.wFin (e : Evt) (v : Int) : Evt := ⟨e.thread, e.index, e.op, e.beg, v, e.steps, e.alloc, e.at_, e.ver, e.an, e.pv⟩
abbrev Evt.wSteps (e : Evt) (v : Int) : Evt := ⟨e.thread, e.index, e.op, e.beg, e.fin, v, e.alloc, e.at_, e.ver, e.an, e.pv⟩
abbrev Evt.wAlloc (e : Evt) (v : Int) : Evt := ⟨e.thread, e.index, e.op, e.beg, e.fin, e.steps, v, e.at_, e.ver, e.an, e.pv⟩
abbrev Evt.wAt (e : Evt) (v : Int) : Evt := ⟨e.thread, e.index, e.op, e.beg, e.fin, e.steps, e.alloc, v, e.ver, e.an, e.pv⟩
abbrev Evt.wVer (e : Evt) (v : Int) : Evt := ⟨e.thread, e.index, e.op, e.beg, e.fin, e.steps, e.alloc, e.at_, v, e.an, e.pv⟩
abbrev Evt.wAn (e : Evt) (an : An) (pv : SV) : Evt := ⟨e.thread, e.index, e.op, e.beg, e.fin, e.steps, e.alloc, e.at_, e.ver, an, pv⟩
def IsSlN (v : Value) (m : Nat) : Prop := ∃ g cap, v = .slice (some ⟨g, 0, none⟩) m cap
theorem R.indexN [Df] {P : Program} {n : Nat} {l : Fr} {C : World → Prop} {g : Bool} {d : Option Tmp} {ty : TypeId} {pos : String} {af : Array Edge} {gd : Option (Nat × Bool)} {x y : Operand} {T E sz m : Nat} {v : Value} {k : IntKind} {j : Int} (hT : P.underlying T = some (.slice E)) (hs : (P.info? E).map (·.size) = some sz) (hx : Ev n l g x v) (hv : IsSlN v m) (hy : Ev n l g y (.int k j))
    (hj : g = true → 0 ≤ j ∧ j < m) : RunsC P n l C g ⟨d, .indexAddr T x y, ty, pos, af, gd⟩ (elemPtr v (j.toNat * sz)) := by
  obtain ⟨b, cap, rfl⟩ := hv
  have := R.indexSl (P := P) (C := C) (d := d) (ty := ty) (pos := pos) (af := af) (gd := gd) hT hs hx hy hj
  simpa [elemPtr, add_addr] using this
section
variable {P : Program} {w0 : World} {n : Nat} [Df] {S N H : Hp} {l : Fr}
theorem At.isn {X : Act → World → Prop} {v : Value} {E : TypeId} {sz m : Nat} {xs : List Value} (hm : Ent.row v E sz m xs ∈ S ++ (N ++ H)) (h0 : 0 < m) (h : IsSl v → IsSlN v m → At w0 n S l N H X) : At w0 n S l N H X :=
  At.rowForm2 hm h0 fun g cap hv _ => h ⟨g, m, cap, hv⟩ ⟨g, cap, hv⟩
end
end Go.Proofs.YtbolanigdkgbdaaGreat
