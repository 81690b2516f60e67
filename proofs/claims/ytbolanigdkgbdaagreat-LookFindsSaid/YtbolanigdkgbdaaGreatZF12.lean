/- Part of the proof: lemmas for what the last file states; no condition. -/
import Derived.Test.YtbolanigdkgbdaaGreatZF11
set_option linter.unusedSectionVars false
namespace Go.Proofs.YtbolanigdkgbdaaGreat
open Go Go.RowKit
set_option maxRecDepth 10000
set_option linter.unusedVariables false
set_option linter.unnecessarySimpa false
set_option linter.unusedSectionVars false
set_option maxHeartbeats 1000000
theorem bt_136 : buildTab Tryz.prog 136 = some (#[.int .i64 0, .int .i64 0, .int .i64 0, .int .i64 0, .int .i64 0, .int .i64 0, .int .i64 0, .int .i64 0, .int .i64 0, .int .i64 0, .int .i64 0, .int .i64 0, .int .i64 0, .bool false, .int .i64 0, .int .i64 0, .int .i64 0, .slice none 0 0], [(0, 1), (1, 1), (2, 4), (6, 1), (7, 1), (8, 1), (9, 1), (10, 1), (11, 1), (12, 6)]) := by kernel_rfl
theorem et_136 : elemTab Tryz.prog 136 = some (18, 160) := by kernel_rfl
theorem fo_116_2 : fieldOff? Tryz.prog 116 2 = some 2 := by kernel_rfl
theorem fo_116_3 : fieldOff? Tryz.prog 116 3 = some 3 := by kernel_rfl
theorem fo_116_4 : fieldOff? Tryz.prog 116 4 = some 4 := by kernel_rfl
theorem fo_116_5 : fieldOff? Tryz.prog 116 5 = some 5 := by kernel_rfl
theorem fo_85_3 : fieldOff? Tryz.prog 85 3 = some 9 := by kernel_rfl
theorem sz_112 : (Tryz.prog.info? 112).map (·.size) = some 1 := by kernel_rfl
theorem sz_113 : (Tryz.prog.info? 113).map (·.size) = some 1 := by kernel_rfl
theorem sz_114 : (Tryz.prog.info? 114).map (·.size) = some 1 := by kernel_rfl
theorem sz_83 : (Tryz.prog.info? 83).map (·.size) = some 1 := by kernel_rfl
theorem ze_110 : (Tryz.prog.info? 110).bind (·.zero) = some (.agg #[.int .i64 0, .int .i64 0, .int .i64 0, .int .i64 0]) := by kernel_rfl
theorem ma_begins {k : Nat} {mb ba : Nat} {Ov Pv dv Tv Kv Gv : Value} {x : Ma} {gs : opsRows} {l0 ps : List Int} {a b : List Th} {y : Th} {es : List Evt} (hgl : gs.length ≤ 1000) (hth : 1 ≤ x.th ∧ x.th ≤ 16) (hcap : 1 ≤ x.cap ∧ x.cap ≤ 16) (hwd : 0 ≤ x.wd ∧ x.wd ≤ 1000000) (hal : a.length < 8) (hny : 0 ≤ y.next ∧ y.next < ((opsL gs (a.length : Int)).length : Int)) (hol : (opsL gs (a.length : Int)).length ≤ 1000) (hop : OpOk (gE (opsL gs (a.length : Int)) y.next)) (hys : 0 ≤ y.scans ∧ y.scans ≤ 1000000) (hel : es.length ≤ 800000) (hl0 : l0.length ≤ 1000000000) : FnX Tryz.prog 74 [.pointer (some ⟨mb, 0, none⟩), .int .i64 (a.length : Int)] (rdE zK dv l0 :: rdE zK Pv ps :: nest opK Ov gs) ([maB mb Ov Pv dv ba Tv Kv Gv x, rowE thK 116 Tv (a ++ y :: b), rowE evK 136 Gv es]) (fun v N => ∃ Gv2 ne y2 B, v = .tuple #[] ∧ N = maB mb Ov Pv dv ba Tv Kv Gv2 x :: rowE thK 116 Tv (a ++ y2 :: b) :: rowE evK 136 Gv2 (es ++ [ne]) :: B ∧ ne.thread = (a.length : Int) ∧ ne.index = y.next ∧ ne.steps = 0 ∧ y2.next = y.next + 1 ∧ y2.busy = true ∧ (y2.scans = y.scans ∨ y2.scans = y.scans + 1) ∧ OpM k dv l0 y2 B) := by
 refine FnX.enter Tryz.func74 (by kernel_rfl) rfl (n := 146) rfl rfl (fun w df hds how => ?_)
 have hG : ∀ y ∈ gs, rdE opK y.1 y.2 ∈ rdE zK dv l0 :: rdE zK Pv ps :: nest opK Ov gs := fun y hy => .tail _ (.tail _ (.tail _ ((List.mem_map.2 ⟨y, hy, rfl⟩))))
 have hTb := midB (a := a) (b := b) (x := y)
 have hTp := midP (a := a) (b := b) (x := y)
 have hk := hop.key
 have hto := hop.to_
 refine At.isl (v := Tv) (List.mem_append_right _ M1) hTp (fun hTv => ?_)
 refine W ?_
 let F9 : Nat → Fr := fun ob => [(13, pt mb 0), (14, iv (a.length : Int)), (15, true, opsV gs (a.length : Int)), (16, true, elemPtr Tv ((a.length : Int).toNat * 6)), (17, true, elemPtr Tv ((a.length : Int).toNat * 6)), (18, true, elemPtr Tv ((a.length : Int).toNat * 6 + 0)), (19, iv y.next), (20, true, elemPtr (opsV gs (a.length : Int)) (y.next.toNat * 4)), (21, true, .agg (opK.enc (gE (opsL gs (a.length : Int)) y.next)).toArray), (5, pt ob 0), (0, pt mb 0), (1, iv (a.length : Int)), (4, true, elemPtr Tv ((a.length : Int).toNat * 6))]
 refine At.dag [tt 0, tt 1, tt 3, tt 4, tt 5, tt 6] 5 (mF 11 [2, 7, 8, 9, 10]) ((rdE zK dv l0 :: rdE zK Pv ps :: nest opK Ov gs) ++ ([maB mb Ov Pv dv ba Tv Kv Gv x, rowE thK 116 Tv (a ++ y :: b), rowE evK 136 Gv es] ++ [])) (fun _ h => h) (by kernel_rfl) (by kernel_rfl) (fun G hnode hdone => ?_)
 have g0 : ∀ (ob : Nat), At w 146 (rdE zK dv l0 :: rdE zK Pv ps :: nest opK Ov gs) (fs (F9 ob) 8191) ([.blk ob (.cells #[.int .i64 (gE (opsL gs (a.length : Int)) y.next).kind, .int .i64 (gE (opsL gs (a.length : Int)) y.next).key, .int .i64 (gE (opsL gs (a.length : Int)) y.next).val, .int .i64 (gE (opsL gs (a.length : Int)) y.next).to_] 110), maB mb Ov Pv dv ba Tv Kv Gv x, rowE thK 116 Tv (a ++ y :: b), rowE evK 136 Gv es]) ([]) (G 0 (mF 11 [])) := fun ob => by
  refine hdone _ _ _ (by kernel_rfl) ?_
  refine U ?_
  refine eA rfl (R.nilCheckE (.t rfl) (by assumption)) ?_
  refine eA rfl (R.fieldE fo_116_0 (.t rfl) (by assumption)) ?_
  refine eA rfl (R.loadRd Tryz.underlying3 rfl (.t rfl) (wN M2) (fun hg => by exact Ek.getM rfl)) ?_
  refine At.callVR rfl rfl rfl (.k rfl (.k rfl .nil)) (.nil) (fun hg => r_WriterOf (by omega) (by omega)) .all ?_
  refine W ?_
  refine At.drawM ([.blk ob (.cells #[.int .i64 (gE (opsL gs (a.length : Int)) y.next).kind, .int .i64 (gE (opsL gs (a.length : Int)) y.next).key, .int .i64 (gE (opsL gs (a.length : Int)) y.next).val, .int .i64 (gE (opsL gs (a.length : Int)) y.next).to_] 110), maB mb Ov Pv dv ba Tv Kv Gv x, rowE thK 116 Tv (a ++ y :: b)]) ([]) [tt 0, tt 1, tt 2, tt 3, tt 5, tt 6, tt 11, tt 12, tt 13] [tt 4, tt 7, tt 8, tt 9, tt 10, tt 14, tt 15, ff 16, ff 17] [tt 18, tt 19, ff 20] (by (exact keepOf (by (apply List.Sublist.cons; apply List.Sublist.cons; apply List.Sublist.cons; apply List.sublist_append_of_sublist_right; apply List.Sublist.cons_cons; apply List.Sublist.cons_cons; apply List.Sublist.cons_cons; exact List.nil_sublist _)))) (fun _ h => nomatch h) (by kernel_rfl) (by kernel_rfl) ?_
  refine V ?_
  refine At.stage kz ?_
  refine U ?_
  refine sC rfl kz (R.nilCheckE (.t rfl) (by assumption)) ?_
  refine sC rfl kz (R.fieldE fo_116_0 (.t rfl) (by assumption)) ?_
  refine sC rfl kz (R.loadRd Tryz.underlying3 rfl (.t rfl) (wK M2) (fun hg => by exact Ek.getM rfl)) ?_
  refine sC rfl kz (R.loadAgg (vs := [_, _, _, _]) Tryz.underlying110 rfl sz_110 (.t rfl) (csK M0 ⟨rfl, rfl, rfl, rfl, trivial⟩)) ?_
  refine U ?_
  refine sC rfl kz (R.build bt_136 (.k rfl (.k rfl (.k rfl (.k rfl (.kc (.cons .c (.kc (.kc .nil)))))))) (.cons rfl (.cons rfl (.cons rfl (.cons rfl (.cons rfl (.cons rfl (.cons rfl (.cons rfl .nil)))))))) rfl) ?_
  refine At.lit (k := evK) rfl rfl rfl Tryz.underlying83 et_136 (.cons (.t rfl) .nil) (.cons (y := (⟨(a.length : Int), y.next, (gE (opsL gs (a.length : Int)) y.next), x.now, -1, 0, -1, -1, -1, ⟨0, false, 0, 0, 0⟩, ⟨.slice none 0 0, rfl⟩⟩ : Evt)) rfl .nil) rfl rfl rfl (fun v1 => ⟨(Cl.kept (by (exact keepOf (by (apply List.Sublist.cons; apply List.Sublist.cons; apply List.Sublist.cons; apply List.sublist_append_of_sublist_right; apply List.Sublist.cons; apply List.Sublist.cons_cons; apply List.Sublist.cons_cons; apply List.Sublist.cons_cons; exact List.nil_sublist _))))), ?_⟩)
  refine At.app (k := evK) rfl rfl rfl Tryz.underlying83 et_136 (.t rfl) (.t rfl) (fun _ => by (exact U4)) (wN M0) (by (simp <;> omega)) (fun v2 => ⟨kz, ?_⟩)
  refine At.stage Cl.none ?_
  refine W ?_
  refine At.rowOne (v := v2) (List.mem_append_right _ M4) (fun h1v => ?_)
  refine At.st1 rfl rfl sz_83 (.t rfl) (.t rfl) h1v rfl (.n U2) ⟨Cl.none, ?_⟩
  refine At.nil ?_
  refine At.tN ?_
  refine At.seq ?_
  refine At.fewer (N1 := [.blk ob (.cells #[.int .i64 (gE (opsL gs (a.length : Int)) y.next).kind, .int .i64 (gE (opsL gs (a.length : Int)) y.next).key, .int .i64 (gE (opsL gs (a.length : Int)) y.next).val, .int .i64 (gE (opsL gs (a.length : Int)) y.next).to_] 110), maB mb Ov Pv dv ba Tv Kv v2 x, rowE thK 116 Tv (a ++ y :: b), rowE evK 136 v2 (es ++ [(⟨(a.length : Int), y.next, (gE (opsL gs (a.length : Int)) y.next), x.now, -1, 0, -1, -1, -1, ⟨0, false, 0, 0, 0⟩, ⟨.slice none 0 0, rfl⟩⟩ : Evt)])]) sl (permOf [_, _, _, _] [0, 1, 2, 3] [1, 2, 3, 0] rfl []) ?_
  refine At.re (N' := [maB mb Ov Pv dv ba Tv Kv v2 x, rowE thK 116 Tv (a ++ y :: b), rowE evK 136 v2 (es ++ [(⟨(a.length : Int), y.next, (gE (opsL gs (a.length : Int)) y.next), x.now, -1, 0, -1, -1, -1, ⟨0, false, 0, 0, 0⟩, ⟨.slice none 0 0, rfl⟩⟩ : Evt)]), .blk ob (.cells #[.int .i64 (gE (opsL gs (a.length : Int)) y.next).kind, .int .i64 (gE (opsL gs (a.length : Int)) y.next).key, .int .i64 (gE (opsL gs (a.length : Int)) y.next).val, .int .i64 (gE (opsL gs (a.length : Int)) y.next).to_] 110)]) rfl ?_
  refine At.plain [ff 0, ff 1, ff 2, ff 3, ff 4, ff 5, ff 6, ff 7, ff 8, ff 9, ff 10, ff 11, ff 12] rfl ?_
  refine eA rfl (R.move (.t rfl)) ?_
  refine eA rfl (R.move (.t rfl)) ?_
  refine eA rfl (R.move (.t rfl)) ?_
  refine eA rfl (R.nilCheckE (.t rfl) (by assumption)) ?_
  refine eA rfl (R.fieldE fo_116_0 (.t rfl) (by assumption)) ?_
  refine eA rfl (R.loadRd Tryz.underlying3 rfl (.t rfl) (wN M1) (fun hg => by exact Ek.getM rfl)) ?_
  refine eA rfl (R.addI (.t rfl) .c gO) ?_
  refine eA rfl (R.nilCheckE (.t rfl) (by assumption)) ?_
  refine eA rfl (R.fieldE fo_116_1 (.t rfl) (by assumption)) ?_
  refine At.stFld (k := thK) 1 (⟨y.next, true, y.scans, y.p, y.g, y.s⟩ : Th) [.bool true] rfl rfl sz_4 (.t rfl) .c rfl rfl (Nat.le_of_ble_eq_true rfl) (.n U1) rfl ⟨.all, ?_⟩
  refine W ?_
  refine At.stFld (k := thK) 0 (⟨y.next + 1, true, y.scans, y.p, y.g, y.s⟩ : Th) [.int .i64 (y.next + 1)] rfl rfl sz_3 (.t rfl) (.t rfl) rfl rfl (Nat.le_of_ble_eq_true rfl) (.n U1) rfl ⟨.all, ?_⟩
  refine W ?_
  refine At.stFld (k := thK) 3 (⟨y.next + 1, true, y.scans, none, y.g, y.s⟩ : Th) [.pointer none] rfl rfl sz_112 (.t rfl) .c rfl rfl (Nat.le_of_ble_eq_true rfl) (.n U1) rfl ⟨.all, ?_⟩
  refine W ?_
  refine At.stFld (k := thK) 4 (⟨y.next + 1, true, y.scans, none, none, y.s⟩ : Th) [.pointer none] rfl rfl sz_113 (.t rfl) .c rfl rfl (Nat.le_of_ble_eq_true rfl) (.n U1) rfl ⟨.all, ?_⟩
  refine W ?_
  refine At.stFld (k := thK) 5 (⟨y.next + 1, true, y.scans, none, none, none⟩ : Th) [.pointer none] rfl rfl sz_114 (.t rfl) .c rfl rfl (Nat.le_of_ble_eq_true rfl) (.n U1) rfl ⟨.all, ?_⟩
  refine Z ?_
  refine At.condD (.t rfl) (fun c1 => ?_) (fun c1 => ?_)
  ·
   refine At.drawM ([maB mb Ov Pv dv ba Tv Kv v2 x, rowE thK 116 Tv (a ++ (⟨y.next + 1, true, y.scans, none, none, none⟩ : Th) :: b), rowE evK 136 v2 (es ++ [(⟨(a.length : Int), y.next, (gE (opsL gs (a.length : Int)) y.next), x.now, -1, 0, -1, -1, -1, ⟨0, false, 0, 0, 0⟩, ⟨.slice none 0 0, rfl⟩⟩ : Evt)]), .blk ob (.cells #[.int .i64 (gE (opsL gs (a.length : Int)) y.next).kind, .int .i64 (gE (opsL gs (a.length : Int)) y.next).key, .int .i64 (gE (opsL gs (a.length : Int)) y.next).val, .int .i64 (gE (opsL gs (a.length : Int)) y.next).to_] 110)]) ([]) [tt 0, tt 1, tt 2, tt 3, tt 4, tt 6, tt 8, tt 9, tt 12, tt 13] [tt 5, tt 7, tt 10, ff 11, ff 14, ff 15] [tt 16, tt 17, ff 18] (keepOf sl) (fun _ h => nomatch h) (by kernel_rfl) (by kernel_rfl) ?_
   refine V ?_
   refine At.stage kz ?_
   refine W ?_
   refine At.callVR rfl rfl rfl (.k rfl (.k rfl .nil)) (.nil) (fun hg => r_Data) kz ?_
   refine cP rfl rfl rfl (.k rfl (.k rfl .nil)) rfl (ma_draws (x := x) (Tv := Tv) (Kv := Kv) (Gv := v2) (wr := ((a.length : Int) * 1000 + y.next)) (l0 := l0) (by omega) hl0) (Rds.all (.blk (.st (List.mem_append_right _ M0)) (.cons (rS M0) .nil))) (fun Dv N1 H1 hR => ?_); obtain ⟨⟨dl, hD⟩, rfl, rfl⟩ := hR; refine ⟨rfl, kz, ?_⟩
   refine cX rfl rfl rfl (.k rfl (.k rfl (.k rfl (.k rfl .nil)))) rfl .nil (.cons (rS M0) .nil) (pu_NewS (k := k) (th := x.th) (wd := x.wd) (ver := x.ver) (cap := x.cap) (key := (gE (opsL gs (a.length : Int)) y.next).key) (data := dataD ((a.length : Int) * 1000 + y.next) (gE (opsL gs (a.length : Int)) y.next).val) hD (by omega) (by omega) (by omega) (by omega) Bd.data) (Aprt.sub1 (mem1 (.head _)) .nil) (fun v B hR => ?_); obtain ⟨pu, rfl, hP⟩ := hR; refine ⟨(Cl.keptB (keepOf (List.Sublist.refl _))), ?_⟩; refine At.perm List.perm_append_comm ?_; refine At.re (N' := maB mb Ov Pv dv ba Tv Kv v2 x :: rowE thK 116 Tv (a ++ (⟨y.next + 1, true, y.scans, none, none, none⟩ : Th) :: b) :: rowE evK 136 v2 (es ++ [(⟨(a.length : Int), y.next, (gE (opsL gs (a.length : Int)) y.next), x.now, -1, 0, -1, -1, -1, ⟨0, false, 0, 0, 0⟩, ⟨.slice none 0 0, rfl⟩⟩ : Evt)]) :: .blk ob (.cells #[.int .i64 (gE (opsL gs (a.length : Int)) y.next).kind, .int .i64 (gE (opsL gs (a.length : Int)) y.next).key, .int .i64 (gE (opsL gs (a.length : Int)) y.next).val, .int .i64 (gE (opsL gs (a.length : Int)) y.next).to_] 110) :: B) rfl ?_
   refine At.stage Cl.none ?_
   refine W ?_
   refine At.stFld (k := thK) 3 (⟨y.next + 1, true, y.scans, some pu, none, none⟩ : Th) [.pointer (some ⟨pu, 0, none⟩)] rfl rfl sz_112 (.t rfl) (.t rfl) rfl rfl (Nat.le_of_ble_eq_true rfl) (.n U1) rfl ⟨Cl.none, ?_⟩
   refine W ?_
   exact At.finalX0 (N' := maB mb Ov Pv dv ba Tv Kv v2 x :: rowE thK 116 Tv (a ++ (⟨y.next + 1, true, y.scans, some pu, none, none⟩ : Th) :: b) :: rowE evK 136 v2 (es ++ [(⟨(a.length : Int), y.next, (gE (opsL gs (a.length : Int)) y.next), x.now, -1, 0, -1, -1, -1, ⟨0, false, 0, 0, 0⟩, ⟨.slice none 0 0, rfl⟩⟩ : Evt)]) :: B) hds how rfl sl (⟨_, _, _, _, rfl, rfl, rfl, rfl, rfl, rfl, rfl, .inl rfl, .inl ⟨pu, rfl, hP⟩⟩) _ (.inr rfl)
  ·
   refine Z ?_
   refine At.condD (.t rfl) (fun c2 => ?_) (fun c2 => ?_)
   ·
    refine At.drawM ([maB mb Ov Pv dv ba Tv Kv v2 x, rowE thK 116 Tv (a ++ (⟨y.next + 1, true, y.scans, none, none, none⟩ : Th) :: b), rowE evK 136 v2 (es ++ [(⟨(a.length : Int), y.next, (gE (opsL gs (a.length : Int)) y.next), x.now, -1, 0, -1, -1, -1, ⟨0, false, 0, 0, 0⟩, ⟨.slice none 0 0, rfl⟩⟩ : Evt)]), .blk ob (.cells #[.int .i64 (gE (opsL gs (a.length : Int)) y.next).kind, .int .i64 (gE (opsL gs (a.length : Int)) y.next).key, .int .i64 (gE (opsL gs (a.length : Int)) y.next).val, .int .i64 (gE (opsL gs (a.length : Int)) y.next).to_] 110)]) ([]) [tt 0, tt 1, tt 2, tt 3, tt 4, tt 6, tt 8, tt 10, tt 11] [tt 5, tt 7, ff 9, ff 12, ff 13] [tt 14, tt 15, ff 16] (keepOf sl) (fun _ h => nomatch h) (by kernel_rfl) (by kernel_rfl) ?_
    refine V ?_
    refine At.stage kz ?_
    refine W ?_
    refine At.callVR rfl rfl rfl (.k rfl (.kc .nil)) (.nil) (fun hg => r_Data) kz ?_
    refine cP rfl rfl rfl (.k rfl (.k rfl .nil)) rfl (ma_draws (x := x) (Tv := Tv) (Kv := Kv) (Gv := v2) (wr := ((a.length : Int) * 1000 + y.next)) (l0 := l0) (by omega) hl0) (Rds.all (.blk (.st (List.mem_append_right _ M0)) (.cons (rS M0) .nil))) (fun Dv N1 H1 hR => ?_); obtain ⟨⟨dl, hD⟩, rfl, rfl⟩ := hR; refine ⟨rfl, kz, ?_⟩
    refine cX rfl rfl rfl (.k rfl (.k rfl (.k rfl (.k rfl .nil)))) rfl .nil (.cons (rS M0) .nil) (pu_NewS (k := k) (th := x.th) (wd := x.wd) (ver := x.ver) (cap := x.cap) (key := (gE (opsL gs (a.length : Int)) y.next).key) (data := dataD ((a.length : Int) * 1000 + y.next) (-1)) hD (by omega) (by omega) (by omega) (by omega) Bd.data) (Aprt.sub1 (mem1 (.head _)) .nil) (fun v B hR => ?_); obtain ⟨pu, rfl, hP⟩ := hR; refine ⟨(Cl.keptB (keepOf (List.Sublist.refl _))), ?_⟩; refine At.perm List.perm_append_comm ?_; refine At.re (N' := maB mb Ov Pv dv ba Tv Kv v2 x :: rowE thK 116 Tv (a ++ (⟨y.next + 1, true, y.scans, none, none, none⟩ : Th) :: b) :: rowE evK 136 v2 (es ++ [(⟨(a.length : Int), y.next, (gE (opsL gs (a.length : Int)) y.next), x.now, -1, 0, -1, -1, -1, ⟨0, false, 0, 0, 0⟩, ⟨.slice none 0 0, rfl⟩⟩ : Evt)]) :: .blk ob (.cells #[.int .i64 (gE (opsL gs (a.length : Int)) y.next).kind, .int .i64 (gE (opsL gs (a.length : Int)) y.next).key, .int .i64 (gE (opsL gs (a.length : Int)) y.next).val, .int .i64 (gE (opsL gs (a.length : Int)) y.next).to_] 110) :: B) rfl ?_
    refine At.stage Cl.none ?_
    refine W ?_
    refine At.stFld (k := thK) 3 (⟨y.next + 1, true, y.scans, some pu, none, none⟩ : Th) [.pointer (some ⟨pu, 0, none⟩)] rfl rfl sz_112 (.t rfl) (.t rfl) rfl rfl (Nat.le_of_ble_eq_true rfl) (.n U1) rfl ⟨Cl.none, ?_⟩
    refine W ?_
    exact At.finalX0 (N' := maB mb Ov Pv dv ba Tv Kv v2 x :: rowE thK 116 Tv (a ++ (⟨y.next + 1, true, y.scans, some pu, none, none⟩ : Th) :: b) :: rowE evK 136 v2 (es ++ [(⟨(a.length : Int), y.next, (gE (opsL gs (a.length : Int)) y.next), x.now, -1, 0, -1, -1, -1, ⟨0, false, 0, 0, 0⟩, ⟨.slice none 0 0, rfl⟩⟩ : Evt)]) :: B) hds how rfl sl (⟨_, _, _, _, rfl, rfl, rfl, rfl, rfl, rfl, rfl, .inl rfl, .inl ⟨pu, rfl, hP⟩⟩) _ (.inr rfl)
   ·
    refine Z ?_
    refine At.condD (.t rfl) (fun c3 => ?_) (fun c3 => ?_)
    ·
     refine At.drawM ([maB mb Ov Pv dv ba Tv Kv v2 x, rowE thK 116 Tv (a ++ (⟨y.next + 1, true, y.scans, none, none, none⟩ : Th) :: b), rowE evK 136 v2 (es ++ [(⟨(a.length : Int), y.next, (gE (opsL gs (a.length : Int)) y.next), x.now, -1, 0, -1, -1, -1, ⟨0, false, 0, 0, 0⟩, ⟨.slice none 0 0, rfl⟩⟩ : Evt)]), .blk ob (.cells #[.int .i64 (gE (opsL gs (a.length : Int)) y.next).kind, .int .i64 (gE (opsL gs (a.length : Int)) y.next).key, .int .i64 (gE (opsL gs (a.length : Int)) y.next).val, .int .i64 (gE (opsL gs (a.length : Int)) y.next).to_] 110)]) ([]) [tt 0, tt 1, tt 2, tt 3, tt 4, tt 6] [tt 5, tt 7, ff 8] [tt 9, tt 10, ff 11] (keepOf sl) (fun _ h => nomatch h) (by kernel_rfl) (by kernel_rfl) ?_
     refine V ?_
     refine At.stage kz ?_
     refine W ?_
     refine cP rfl rfl rfl (.k rfl (.k rfl .nil)) rfl (dg_New (a := x.th) (b := (x.cap : Int)) (c := x.wd) (d := x.ver) (key := (gE (opsL gs (a.length : Int)) y.next).key)) (fun _ h => nomatch h) (fun v N1 H1 hR => ?_); obtain ⟨bg, bw, rfl, rfl, rfl⟩ := hR; refine ⟨rfl, kz, ?_⟩; refine At.perm List.perm_append_comm ?_; refine At.re (N' := maB mb Ov Pv dv ba Tv Kv v2 x :: rowE thK 116 Tv (a ++ (⟨y.next + 1, true, y.scans, none, none, none⟩ : Th) :: b) :: rowE evK 136 v2 (es ++ [(⟨(a.length : Int), y.next, (gE (opsL gs (a.length : Int)) y.next), x.now, -1, 0, -1, -1, -1, ⟨0, false, 0, 0, 0⟩, ⟨.slice none 0 0, rfl⟩⟩ : Evt)]) :: .blk ob (.cells #[.int .i64 (gE (opsL gs (a.length : Int)) y.next).kind, .int .i64 (gE (opsL gs (a.length : Int)) y.next).key, .int .i64 (gE (opsL gs (a.length : Int)) y.next).val, .int .i64 (gE (opsL gs (a.length : Int)) y.next).to_] 110) :: [dgB bg x.th (x.cap : Int) x.wd x.ver (gE (opsL gs (a.length : Int)) y.next).key bw none false, dwB bw (⟨x.th, (x.cap : Int), x.wd, x.ver, (gE (opsL gs (a.length : Int)) y.next).key, 1, 0, 0, 0, 0⟩ : Dw)]) rfl ?_
     refine At.stage Cl.none ?_
     refine W ?_
     refine At.stFld (k := thK) 4 (⟨y.next + 1, true, y.scans, none, some bg, none⟩ : Th) [.pointer (some ⟨bg, 0, none⟩)] rfl rfl sz_113 (.t rfl) (.t rfl) rfl rfl (Nat.le_of_ble_eq_true rfl) (.n U1) rfl ⟨Cl.none, ?_⟩
     refine W ?_
     exact At.finalX0 (N' := maB mb Ov Pv dv ba Tv Kv v2 x :: rowE thK 116 Tv (a ++ (⟨y.next + 1, true, y.scans, none, some bg, none⟩ : Th) :: b) :: rowE evK 136 v2 (es ++ [(⟨(a.length : Int), y.next, (gE (opsL gs (a.length : Int)) y.next), x.now, -1, 0, -1, -1, -1, ⟨0, false, 0, 0, 0⟩, ⟨.slice none 0 0, rfl⟩⟩ : Evt)]) :: [dgB bg x.th (x.cap : Int) x.wd x.ver (gE (opsL gs (a.length : Int)) y.next).key bw none false, dwB bw (⟨x.th, (x.cap : Int), x.wd, x.ver, (gE (opsL gs (a.length : Int)) y.next).key, 1, 0, 0, 0, 0⟩ : Dw)]) hds how rfl sl (⟨_, _, _, _, rfl, rfl, rfl, rfl, rfl, rfl, rfl, .inl rfl, .inr (.inl ⟨rfl, bg, rfl, ge_New (by omega) (by omega) (by omega)⟩)⟩) _ (.inr rfl)
    ·
     refine U ?_
     refine eA rfl (R.nilCheckE (.t rfl) (by assumption)) ?_
     refine eA rfl (R.fieldE fo_116_2 (.t rfl) (by assumption)) ?_
     refine eA rfl (R.loadRd Tryz.underlying3 rfl (.t rfl) (wN M1) (fun hg => by exact Ek.getM rfl)) ?_
     refine eA rfl (R.addI (.t rfl) .c (fun hg => by dsimp only; omega)) ?_
     refine eA rfl (R.nilCheckE (.t rfl) (by assumption)) ?_
     refine eA rfl (R.fieldE fo_116_2 (.t rfl) (by assumption)) ?_
     refine At.stFld (k := thK) 2 (⟨y.next + 1, true, y.scans + 1, none, none, none⟩ : Th) [.int .i64 (y.scans + 1)] rfl rfl sz_3 (.t rfl) (.t rfl) rfl rfl (Nat.le_of_ble_eq_true rfl) (.n U1) rfl ⟨.all, ?_⟩
     refine W ?_
     refine At.drawM ([maB mb Ov Pv dv ba Tv Kv v2 x, rowE thK 116 Tv (a ++ (⟨y.next + 1, true, y.scans + 1, none, none, none⟩ : Th) :: b), rowE evK 136 v2 (es ++ [(⟨(a.length : Int), y.next, (gE (opsL gs (a.length : Int)) y.next), x.now, -1, 0, -1, -1, -1, ⟨0, false, 0, 0, 0⟩, ⟨.slice none 0 0, rfl⟩⟩ : Evt)]), .blk ob (.cells #[.int .i64 (gE (opsL gs (a.length : Int)) y.next).kind, .int .i64 (gE (opsL gs (a.length : Int)) y.next).key, .int .i64 (gE (opsL gs (a.length : Int)) y.next).val, .int .i64 (gE (opsL gs (a.length : Int)) y.next).to_] 110)]) ([]) [tt 0, tt 1, tt 2, tt 3, tt 4, tt 6, tt 7, tt 11, tt 13] [tt 5, tt 8, tt 9, tt 10, tt 12, tt 14, ff 15] [tt 16, tt 17, ff 18] (keepOf sl) (fun _ h => nomatch h) (by kernel_rfl) (by kernel_rfl) ?_
     refine V ?_
     refine At.stage kz ?_
     refine W ?_
     refine cP rfl rfl rfl (.k rfl (.k rfl (.k rfl (.k rfl (.k rfl .nil))))) rfl (ds_New (a := x.th) (b := (x.cap : Int)) (c := x.wd) (d := x.ver) (t := (a.length : Int)) (seq := y.scans + 1) (lo := (gE (opsL gs (a.length : Int)) y.next).key) (hi := (gE (opsL gs (a.length : Int)) y.next).to_)) (fun _ h => nomatch h) (fun v N1 H1 hR => ?_); obtain ⟨bs, kp, rfl, rfl, rfl⟩ := hR; refine ⟨rfl, kz, ?_⟩; refine At.nilRow iK 43 ?_; refine At.perm (permOf [_, _, _, _, _, _, _] [0, 1, 2, 3, 4, 5, 6] [3, 4, 5, 6, 1, 2, 0] rfl []) ?_; refine At.re (N' := maB mb Ov Pv dv ba Tv Kv v2 x :: rowE thK 116 Tv (a ++ (⟨y.next + 1, true, y.scans + 1, none, none, none⟩ : Th) :: b) :: rowE evK 136 v2 (es ++ [(⟨(a.length : Int), y.next, (gE (opsL gs (a.length : Int)) y.next), x.now, -1, 0, -1, -1, -1, ⟨0, false, 0, 0, 0⟩, ⟨.slice none 0 0, rfl⟩⟩ : Evt)]) :: .blk ob (.cells #[.int .i64 (gE (opsL gs (a.length : Int)) y.next).kind, .int .i64 (gE (opsL gs (a.length : Int)) y.next).key, .int .i64 (gE (opsL gs (a.length : Int)) y.next).val, .int .i64 (gE (opsL gs (a.length : Int)) y.next).to_] 110) :: [dsB bs kp none none (.slice none 0 0) (⟨x.th, (x.cap : Int), x.wd, x.ver, (a.length : Int), y.scans + 1, (gE (opsL gs (a.length : Int)) y.next).key, (gE (opsL gs (a.length : Int)) y.next).to_, 10, 0, 0⟩ : Ds), dcB kp (⟨x.th, (x.cap : Int), x.wd, x.ver, (a.length : Int), y.scans + 1, 1, 0, 0, 0⟩ : Dc), rowE iK 43 (.slice none 0 0) []]) rfl ?_
     refine At.stage Cl.none ?_
     refine W ?_
     refine At.stFld (k := thK) 5 (⟨y.next + 1, true, y.scans + 1, none, none, some bs⟩ : Th) [.pointer (some ⟨bs, 0, none⟩)] rfl rfl sz_114 (.t rfl) (.t rfl) rfl rfl (Nat.le_of_ble_eq_true rfl) (.n U1) rfl ⟨Cl.none, ?_⟩
     refine W ?_
     exact At.finalX0 (N' := maB mb Ov Pv dv ba Tv Kv v2 x :: rowE thK 116 Tv (a ++ (⟨y.next + 1, true, y.scans + 1, none, none, some bs⟩ : Th) :: b) :: rowE evK 136 v2 (es ++ [(⟨(a.length : Int), y.next, (gE (opsL gs (a.length : Int)) y.next), x.now, -1, 0, -1, -1, -1, ⟨0, false, 0, 0, 0⟩, ⟨.slice none 0 0, rfl⟩⟩ : Evt)]) :: [dsB bs kp none none (.slice none 0 0) (⟨x.th, (x.cap : Int), x.wd, x.ver, (a.length : Int), y.scans + 1, (gE (opsL gs (a.length : Int)) y.next).key, (gE (opsL gs (a.length : Int)) y.next).to_, 10, 0, 0⟩ : Ds), dcB kp (⟨x.th, (x.cap : Int), x.wd, x.ver, (a.length : Int), y.scans + 1, 1, 0, 0, 0⟩ : Dc), rowE iK 43 (.slice none 0 0) []]) hds how rfl sl (⟨_, _, _, _, rfl, rfl, rfl, rfl, rfl, rfl, rfl, .inr rfl, .inr (.inr ⟨rfl, rfl, bs, rfl, sc_New (by omega) (by omega) (by omega) (by omega)⟩)⟩) _ (.inr rfl)
 have g1 : ∀ (ob : Nat), At w 146 (rdE zK dv l0 :: rdE zK Pv ps :: nest opK Ov gs) (fs (F9 ob) 8191) ([.blk ob (.cells #[.int .i64 0, .int .i64 0, .int .i64 0, .int .i64 0] 110), maB mb Ov Pv dv ba Tv Kv Gv x, rowE thK 116 Tv (a ++ y :: b), rowE evK 136 Gv es]) ([]) (G 1 (mF 11 [10])) := fun ob => by
  refine hnode _ _ _ _ [(10, [], 0, (mF 11 []))] (by kernel_rfl) kz ?_
  ·
   refine At.stN rfl rfl sz_110 (.t rfl) (.t rfl) rfl rfl rfl (.n U0) ⟨kz, ?_⟩
   refine W ?_
   exact wk (g0 ob)
 have g2 : ∀ (_ : True), At w 146 (rdE zK dv l0 :: rdE zK Pv ps :: nest opK Ov gs) (fs (F9 0) 7679) ([maB mb Ov Pv dv ba Tv Kv Gv x, rowE thK 116 Tv (a ++ y :: b), rowE evK 136 Gv es]) ([]) (G 2 (mF 11 [9, 10])) := fun _ => by
  refine hnode _ _ _ _ [(9, [], 1, (mF 11 [10]))] (by kernel_rfl) kI ?_
  ·
   refine At.alloc rfl rfl rfl ze_110 (fun b1 hb1 => ⟨kz, ?_⟩)
   refine W ?_
   exact wk (g1 b1)
 have g3 : ∀ (ob : Nat), At w 146 (rdE zK dv l0 :: rdE zK Pv ps :: nest opK Ov gs) (fs (F9 ob) 7803) ([.blk ob (.cells #[.int .i64 0, .int .i64 0, .int .i64 0, .int .i64 0] 110), maB mb Ov Pv dv ba Tv Kv Gv x, rowE thK 116 Tv (a ++ y :: b), rowE evK 136 Gv es]) ([]) (G 4 (mF 11 [2, 7, 8, 10])) := fun ob => by
  refine hnode _ _ _ _ [(2, [tt 7, tt 8], 1, (mF 11 [10]))] (by kernel_rfl) kz ?_
  ·
   refine At.callVR rfl rfl rfl (.k rfl (.k rfl .nil)) (.blk (.st (List.mem_append_right _ M1)) (.ofNest (rS M2) (fun y hy => rS (by simp only [List.mem_append]; exact .inl (hG y hy))))) (fun hg => ma_ops (t := (a.length : Int)) (gs := gs) hgl) kz ?_
   refine sC rfl kz (R.indexRd Tryz.underlying75 sz_110 (.t rfl) (opsRd (a.length : Int) (fun y hy => rK (by simp only [List.mem_append]; exact .inl (hG y hy)))) (.t rfl) gO) ?_
   refine sC rfl kz (R.loadRdAgg (us := opK.enc _) Tryz.underlying110 rfl sz_110 (.t rfl) (opsRd (a.length : Int) (fun y hy => rK (by simp only [List.mem_append]; exact .inl (hG y hy)))) gO (fun hg => by exact Ek.getA (by omega))) ?_
   refine W ?_
   exact wk (g1 ob)
 have g4 : ∀ (_ : True), At w 146 (rdE zK dv l0 :: rdE zK Pv ps :: nest opK Ov gs) (fs (F9 0) 7291) ([maB mb Ov Pv dv ba Tv Kv Gv x, rowE thK 116 Tv (a ++ y :: b), rowE evK 136 Gv es]) ([]) (G 5 (mF 11 [2, 7, 8, 9, 10])) := fun _ => by
  refine hnode _ _ _ _ [(2, [tt 7, tt 8], 2, (mF 11 [9, 10])), (9, [], 4, (mF 11 [2, 7, 8, 10]))] (by kernel_rfl) kI ?_
  refine ⟨?_, ?_⟩
  ·
   refine At.callVR rfl rfl rfl (.k rfl (.k rfl .nil)) (.blk (.st (List.mem_append_right _ M0)) (.ofNest (rS M2) (fun y hy => rS (by simp only [List.mem_append]; exact .inl (hG y hy))))) (fun hg => ma_ops (t := (a.length : Int)) (gs := gs) hgl) kI ?_
   refine sJ rfl (R.indexRd Tryz.underlying75 sz_110 (.t rfl) (opsRd (a.length : Int) (fun y hy => rK (by simp only [List.mem_append]; exact .inl (hG y hy)))) (.t rfl) gO) ?_
   refine sJ rfl (R.loadRdAgg (us := opK.enc _) Tryz.underlying110 rfl sz_110 (.t rfl) (opsRd (a.length : Int) (fun y hy => rK (by simp only [List.mem_append]; exact .inl (hG y hy)))) gO (fun hg => by exact Ek.getA (by omega))) ?_
   refine W ?_
   exact wk (g2 trivial)
  ·
   refine At.alloc rfl rfl rfl ze_110 (fun b1 hb1 => ⟨kz, ?_⟩)
   refine W ?_
   exact wk (g3 b1)
 refine U ?_
 refine sJ rfl (R.nilCheckE (.t rfl) (by assumption)) ?_
 refine sJ rfl (R.fieldE fo_116_0 (.t rfl) (by assumption)) ?_
 refine sJ rfl (R.loadRd Tryz.underlying3 rfl (.t rfl) (wKN M1) (fun hg => by exact Ek.getM rfl)) ?_
 refine U ?_
 exact wk (g4 trivial)
end Go.Proofs.YtbolanigdkgbdaaGreat
namespace Go.Proofs.YtbolanigdkgbdaaGreat
open Go Go.RowKit
set_option linter.unusedVariables false
set_option linter.unusedSectionVars false
abbrev Evt.wFin (e : Evt) (v : Int) : Evt := ⟨e.thread, e.index, e.op, e.beg, v, e.steps, e.alloc, e.at_, e.ver, e.an, e.pv⟩
abbrev Evt.wSteps (e : Evt) (v : Int) : Evt := ⟨e.thread, e.index, e.op, e.beg, e.fin, v, e.alloc, e.at_, e.ver, e.an, e.pv⟩
abbrev Evt.wAlloc (e : Evt) (v : Int) : Evt := ⟨e.thread, e.index, e.op, e.beg, e.fin, e.steps, v, e.at_, e.ver, e.an, e.pv⟩
abbrev Evt.wAt (e : Evt) (v : Int) : Evt := ⟨e.thread, e.index, e.op, e.beg, e.fin, e.steps, e.alloc, v, e.ver, e.an, e.pv⟩
abbrev Evt.wVer (e : Evt) (v : Int) : Evt := ⟨e.thread, e.index, e.op, e.beg, e.fin, e.steps, e.alloc, e.at_, v, e.an, e.pv⟩
abbrev Evt.wAn (e : Evt) (an : An) (pv : SV) : Evt := ⟨e.thread, e.index, e.op, e.beg, e.fin, e.steps, e.alloc, e.at_, e.ver, an, pv⟩
def IsSlN (v : Value) (m : Nat) : Prop := ∃ g cap, v = .slice (some ⟨g, 0, none⟩) m cap
theorem R.indexN [Df] {P : Program} {n : Nat} {l : Fr} {C : World → Prop} {g : Bool} {d : Option Tmp} {ty : TypeId} {pos : String} {af : Array Edge} {gd : Option (Nat × Bool)} {x y : Operand} {T E sz m : Nat} {v : Value} {k : IntKind} {j : Int} (hT : P.underlying T = some (.slice E)) (hs : (P.info? E).map (·.size) = some sz) (hx : Ev n l g x v) (hv : IsSlN v m) (hy : Ev n l g y (.int k j))
    (hj : g = true → 0 ≤ j ∧ j < m) : RunsC P n l C g ⟨d, .indexAddr T x y, ty, pos, af, gd⟩ (elemPtr v (j.toNat * sz)) := by
  obtain ⟨b, cap, rfl⟩ := hv
  have := R.indexSl (P := P) (C := C) (d := d) (ty := ty) (pos := pos) (af := af) (gd := gd) hT hs hx hy hj
  simpa [elemPtr, add_addr] using this
section
variable {P : Program} {w0 : World} {n : Nat} [Df] {S N H : Hp} {l : Fr}
theorem At.isn {X : Act → World → Prop} {v : Value} {E : TypeId} {sz m : Nat} {xs : List Value} (hm : Ent.row v E sz m xs ∈ S ++ (N ++ H)) (h0 : 0 < m) (h : IsSl v → IsSlN v m → At w0 n S l N H X) : At w0 n S l N H X :=
  At.rowForm2 hm h0 fun g cap hv _ => h ⟨g, m, cap, hv⟩ ⟨g, cap, hv⟩
end
end Go.Proofs.YtbolanigdkgbdaaGreat
namespace Go.Proofs.YtbolanigdkgbdaaGreat
open Go Go.RowKit
set_option maxRecDepth 10000
set_option linter.unusedVariables false
set_option linter.unnecessarySimpa false
set_option linter.unusedSectionVars false
set_option maxHeartbeats 1000000
theorem fo_136_4 : fieldOff? Tryz.prog 136 4 = some 7 := by kernel_rfl
theorem fo_136_5 : fieldOff? Tryz.prog 136 5 = some 8 := by kernel_rfl
theorem fo_136_6 : fieldOff? Tryz.prog 136 6 = some 9 := by kernel_rfl
theorem fo_136_9 : fieldOff? Tryz.prog 136 9 = some 12 := by kernel_rfl
theorem fo_85_1 : fieldOff? Tryz.prog 85 1 = some 7 := by kernel_rfl
theorem ma_stepsP {k n : Nat} {mb ba : Nat} {Ov Pv dv Tv Kv Gv : Value} {x : Ma} {gs : opsRows} {wv : Value} {l0 ps : List Int} {a b : List Th} {ea eb : List Evt} {ev : Evt} {nx sc : Int} {bz : Bool} {r : Rr} {N : Hp} {pu : Nat} {pg psc : Option Nat} (hP : PuM k pu dv l0 N) (hr : r.okk n k) (hn : n ≤ 1000000) (hk : k ≤ 800000) (hst : 0 ≤ ev.steps ∧ ev.steps ≤ 1000000) : FnX Tryz.prog 75 [.pointer (some ⟨mb, 0, none⟩), .int .i64 (a.length : Int), .int .i64 (ea.length : Int)] (rdE zK dv l0 :: rdE zK Pv ps :: nest opK Ov gs) (maB mb Ov Pv dv ba Tv Kv Gv x :: rowE thK 116 Tv (a ++ (⟨nx, bz, sc, some pu, pg, psc⟩ : Th) :: b) :: rowE evK 136 Gv (ea ++ ev :: eb) :: raB ba wv r :: raW wv n r :: N) (fun v N => ∃ r2 bz2 ev2 N2, v = .tuple #[] ∧ N = maB mb Ov Pv dv ba Tv Kv Gv x :: rowE thK 116 Tv (a ++ (⟨nx, bz2, sc, some pu, pg, psc⟩ : Th) :: b) :: rowE evK 136 Gv (ea ++ ev2 :: eb) :: raB ba wv r2 :: raW wv n r2 :: N2 ∧ r2.okk n (k + 1) ∧ ev2.thread = ev.thread ∧ ev2.index = ev.index ∧ ev2.steps = ev.steps + 1 ∧ OpM (k + 1) dv l0 (⟨nx, bz2, sc, some pu, pg, psc⟩ : Th) N2) := by
 refine FnX.enter Tryz.func75 (by kernel_rfl) rfl (n := 163) rfl rfl (fun w df hds how => ?_)
 have hG : ∀ y ∈ gs, rdE opK y.1 y.2 ∈ rdE zK dv l0 :: rdE zK Pv ps :: nest opK Ov gs := fun y hy => .tail _ (.tail _ (.tail _ ((List.mem_map.2 ⟨y, hy, rfl⟩))))
 have hTp := midP (a := a) (b := b) (x := (⟨nx, bz, sc, some pu, pg, psc⟩ : Th))
 have hGp := midP (a := ea) (b := eb) (x := ev)
 refine At.isl (v := Tv) (List.mem_append_right _ M1) hTp (fun hTv => ?_)
 refine At.isn (v := Gv) (List.mem_append_right _ M2) hGp (fun hGv hGn => ?_)
 refine At.seq ?_
 refine At.plain [ff 0, ff 1, ff 2, ff 3, ff 4, ff 5, ff 6] rfl ?_
 refine eA rfl (R.move (.t rfl)) ?_
 refine eA rfl (R.nilCheckP (.t rfl)) ?_
 refine eA rfl (R.fieldAddr fo_85_2 (.t rfl)) ?_
 refine eA rfl (R.load Tryz.underlying82 rfl (.t rfl) (cN M0 rfl)) ?_
 refine eA rfl (R.move (.t rfl)) ?_
 refine eA rfl (R.indexRd Tryz.underlying82 sz_116 (.t rfl) (wN M1) (.t rfl) (fun hg => (midB))) ?_
 refine eA rfl (R.assign (.t rfl)) ?_
 refine At.nil ?_
 refine At.tN ?_
 refine At.seq ?_
 refine At.plain [ff 0] rfl ?_
 refine eA rfl (R.assign .c) ?_
 refine At.nil ?_
 refine At.tN ?_
 refine At.seq ?_
 refine At.block ?_
 refine At.seq ?_
 refine At.plain [ff 0, ff 1, ff 2, ff 3, ff 4, ff 5] rfl ?_
 refine eA rfl (R.move (.t rfl)) ?_
 refine eA rfl (R.nilCheckE (.t rfl) (by assumption)) ?_
 refine eA rfl (R.fieldE fo_116_3 (.t rfl) (by assumption)) ?_
 refine eA rfl (R.loadRd Tryz.underlying112 rfl (.t rfl) (wN M1) (fun hg => by exact Ek.getM rfl)) ?_
 refine eA rfl (R.neqNilP Tryz.underlying112 (.t rfl)) ?_
 refine eA rfl (R.assign (.t rfl)) ?_
 refine At.nil ?_
 refine At.tN ?_
 refine At.condT (.t rfl) ?_
 refine At.seq ?_
 refine At.drawM ([maB mb Ov Pv dv ba Tv Kv Gv x, rowE thK 116 Tv (a ++ (⟨nx, bz, sc, some pu, pg, psc⟩ : Th) :: b), rowE evK 136 Gv (ea ++ ev :: eb), raB ba wv r, raW wv n r]) ([]) [tt 0, tt 1, tt 2, tt 4, tt 5, tt 6] [tt 3, tt 7] [ff 8, tt 9] (by (exact keepOf (by (apply List.Sublist.cons; apply List.Sublist.cons; apply List.Sublist.cons; apply List.sublist_append_of_sublist_right; apply List.Sublist.cons_cons; apply List.Sublist.cons_cons; apply List.Sublist.cons_cons; apply List.Sublist.cons_cons; apply List.Sublist.cons_cons; exact List.nil_sublist _)))) (fun _ h => nomatch h) (by kernel_rfl) (by kernel_rfl) ?_
 refine sC rfl Cl.none (R.move (.t rfl)) ?_
 refine sC rfl Cl.none (R.nilCheckE (.t rfl) (by assumption)) ?_
 refine sC rfl Cl.none (R.fieldE fo_116_3 (.t rfl) (by assumption)) ?_
 refine sC rfl Cl.none (R.move (.t rfl)) ?_
 refine sC rfl Cl.none (R.nilCheckP (.t rfl)) ?_
 refine sC rfl Cl.none (R.fieldAddr fo_85_1 (.t rfl)) ?_
 refine At.stage kz ?_
 refine sC rfl kz (R.loadRd Tryz.underlying112 rfl (.t rfl) (wK M1) (fun hg => by exact Ek.getM rfl)) ?_
 refine sC rfl kz (R.load Tryz.underlying30 rfl (.t rfl) (cK M0 rfl)) ?_
 refine At.stage Cl.none ?_
 refine cX rfl rfl rfl (.k rfl (.k rfl .nil)) rfl (.skip (.skip (.skip .all))) (.cons (rS M0) .nil) (pu_Step (ba := ba) (wv := wv) hP hr hn hk) (Aprt.sub1 (mem1 (.head _)) (.skip (.skip (.skip .all)))) (fun v B hR => ⟨Cl.none, ?_⟩); obtain ⟨e, r2, N2, rfl, rfl, hr2, hP2⟩ := hR; have hP3 := hP2; obtain ⟨px, pDv, pl, pwp, pxp, pmp, pov, NN, hpx, hpD, rfl, hpc⟩ := hP2; refine At.perm List.perm_append_comm ?_; refine At.re (N' := maB mb Ov Pv dv ba Tv Kv Gv x :: rowE thK 116 Tv (a ++ (⟨nx, bz, sc, some pu, pg, psc⟩ : Th) :: b) :: rowE evK 136 Gv (ea ++ ev :: eb) :: raB ba wv r2 :: raW wv n r2 :: puB pu pDv pwp pxp pmp pov px :: NN) rfl ?_
 refine sC rfl Cl.none (R.assign (.t rfl)) ?_
 refine At.nil ?_
 refine At.tN ?_
 refine At.seq ?_
 refine At.seq ?_
 refine At.plain [ff 0, ff 1, ff 2, ff 3, ff 4, ff 5, ff 6] rfl ?_
 refine eA rfl (R.move (.t rfl)) ?_
 refine eA rfl (R.nilCheckE (.t rfl) (by assumption)) ?_
 refine eA rfl (R.fieldE fo_116_3 (.t rfl) (by assumption)) ?_
 refine eA rfl (R.loadRd Tryz.underlying112 rfl (.t rfl) (wN M1) (fun hg => by exact Ek.getM rfl)) ?_
 refine eA rfl (R.nilCheckP (.t rfl)) ?_
 refine eA rfl (R.fieldAddr fo_145_10 (.t rfl)) ?_
 refine eA rfl (R.load Tryz.underlying4 rfl (.t rfl) (cN M5 rfl)) ?_
 refine At.nil ?_
 refine At.tN ?_
 refine At.cond (.t rfl) (fun c2 => ?_) (fun c2 => ?_)
 ·
  refine At.drawM ([maB mb Ov Pv dv ba Tv Kv Gv x, rowE thK 116 Tv (a ++ (⟨nx, bz, sc, some pu, pg, psc⟩ : Th) :: b), rowE evK 136 Gv (ea ++ ev :: eb), raB ba wv r2, raW wv n r2, puB pu pDv pwp pxp pmp pov px]) ([]) [tt 0, tt 1, tt 2, tt 4, tt 5, tt 6, tt 7] [tt 3, tt 8] [tt 9, tt 10, ff 11] (by (exact keepOf (by (apply List.Sublist.cons; apply List.Sublist.cons; apply List.Sublist.cons; apply List.sublist_append_of_sublist_right; apply List.Sublist.cons_cons; apply List.Sublist.cons_cons; apply List.Sublist.cons_cons; apply List.Sublist.cons_cons; apply List.Sublist.cons_cons; apply List.Sublist.cons_cons; exact List.nil_sublist _)))) (fun _ h => nomatch h) (by kernel_rfl) (by kernel_rfl) ?_
  refine sC rfl Cl.none (R.move (.t rfl)) ?_
  refine sC rfl Cl.none (R.nilCheckP (.t rfl)) ?_
  refine sC rfl Cl.none (R.fieldAddr fo_85_6 (.t rfl)) ?_
  refine sC rfl Cl.none (R.move (.t rfl)) ?_
  refine sC rfl Cl.none (R.move (.t rfl)) ?_
  refine sC rfl Cl.none (R.nilCheckP (.t rfl)) ?_
  refine sC rfl Cl.none (R.fieldAddr fo_85_3 (.t rfl)) ?_
  refine At.stage kz ?_
  refine sC rfl kz (R.load Tryz.underlying83 rfl (.t rfl) (cK M0 rfl)) ?_
  refine sC rfl kz (R.load Tryz.underlying3 rfl (.t rfl) (cK M0 rfl)) ?_
  refine At.stage Cl.none ?_
  refine sC rfl Cl.none (R.indexN Tryz.underlying83 sz_136 (.t rfl) (by assumption) (.t rfl) (fun hg => (midB))) ?_
  refine sC rfl Cl.none (R.fieldE fo_136_6 (.t rfl) (by assumption)) ?_
  refine At.stFld (k := evK) 9 (ev.wAlloc x.now) [.int .i64 x.now] rfl rfl sz_3 (.t rfl) (.t rfl) rfl rfl (Nat.le_of_ble_eq_true rfl) (.n U2) rfl ⟨Cl.none, ?_⟩
  refine At.nil ?_
  refine At.tN ?_
  refine At.seq ?_
  refine At.plain [ff 0, ff 1, ff 2, ff 3, ff 4, ff 5, ff 6, ff 7, ff 8, ff 9, ff 10] rfl ?_
  refine eA rfl (R.move (.t rfl)) ?_
  refine eA rfl (R.move (.t rfl)) ?_
  refine eA rfl (R.move (.t rfl)) ?_
  refine eA rfl (R.nilCheckE (.s rfl) (by assumption)) ?_
  refine eA rfl (R.fieldE fo_116_3 (.s rfl) (by assumption)) ?_
  refine eA rfl (R.loadRd Tryz.underlying112 rfl (.s rfl) (wN M1) (fun hg => by exact Ek.getM rfl)) ?_
  refine eA rfl (R.nilCheckP (.s rfl)) ?_
  refine eA rfl (R.fieldAddr fo_145_9 (.s rfl)) ?_
  refine eA rfl (R.load Tryz.underlying3 rfl (.s rfl) (cN M5 rfl)) ?_
  refine eA rfl (R.neq (.s rfl) .c) ?_
  refine eA rfl (R.pickAnd (.t rfl) rfl (by (intro hg h; rw [h]; rfl))) ?_
  refine At.nil ?_
  refine At.tN ?_
  refine At.cond (.t rfl) (fun c3 => ?_) (fun c3 => ?_)
  ·
   refine At.drawM ([maB mb Ov Pv dv ba Tv Kv Gv x, rowE thK 116 Tv (a ++ (⟨nx, bz, sc, some pu, pg, psc⟩ : Th) :: b), rowE evK 136 Gv (ea ++ (ev.wAlloc x.now) :: eb), raB ba wv r2, raW wv n r2, puB pu pDv pwp pxp pmp pov px]) ([]) [tt 0, tt 1, tt 2, tt 4, tt 5, tt 6, tt 7] [tt 3, tt 8, tt 9, tt 10, tt 11, tt 12] [tt 13, tt 14, ff 15] (by (exact keepOf (by (apply List.Sublist.cons; apply List.Sublist.cons; apply List.Sublist.cons; apply List.sublist_append_of_sublist_right; apply List.Sublist.cons_cons; apply List.Sublist.cons_cons; apply List.Sublist.cons_cons; apply List.Sublist.cons_cons; apply List.Sublist.cons_cons; apply List.Sublist.cons_cons; exact List.nil_sublist _)))) (fun _ h => nomatch h) (by kernel_rfl) (by kernel_rfl) ?_
   refine sC rfl Cl.none (R.move (.t rfl)) ?_
   refine sC rfl Cl.none (R.nilCheckP (.t rfl)) ?_
   refine sC rfl Cl.none (R.fieldAddr fo_85_6 (.t rfl)) ?_
   refine sC rfl Cl.none (R.move (.t rfl)) ?_
   refine sC rfl Cl.none (R.move (.t rfl)) ?_
   refine sC rfl Cl.none (R.nilCheckE (.t rfl) (by assumption)) ?_
   refine sC rfl Cl.none (R.fieldE fo_116_3 (.t rfl) (by assumption)) ?_
   refine At.stage kz ?_
   refine sC rfl kz (R.load Tryz.underlying83 rfl (.t rfl) (cK M0 rfl)) ?_
   refine sC rfl kz (R.loadRd Tryz.underlying112 rfl (.t rfl) (wK M1) (fun hg => by exact Ek.getM rfl)) ?_
   refine sC rfl kz (R.nilCheckP (.t rfl)) ?_
   refine sC rfl kz (R.fieldAddr fo_145_9 (.t rfl)) ?_
   refine sC rfl kz (R.load Tryz.underlying3 rfl (.t rfl) (cK M5 rfl)) ?_
   refine sC rfl kz (R.build bt_134 (.k rfl .nil) (.cons rfl .nil) rfl) ?_
   refine At.stage Cl.none ?_
   refine sC rfl Cl.none (R.indexN Tryz.underlying83 sz_136 (.t rfl) (by assumption) (.t rfl) (fun hg => (midB))) ?_
   refine sC rfl Cl.none (R.fieldE fo_136_9 (.t rfl) (by assumption)) ?_
   refine At.stFld (k := evK) 12 ((ev.wAlloc x.now).wAn ⟨px.e, false, 0, 0, 0⟩ ⟨.slice none 0 0, rfl⟩) [.int .i64 px.e, .bool false, .int .i64 0, .int .i64 0, .int .i64 0, .slice none 0 0] rfl rfl sz_134 (.t rfl) (.t rfl) rfl rfl (Nat.le_of_ble_eq_true rfl) (.n U2) rfl ⟨Cl.none, ?_⟩
   refine At.nil ?_
   refine At.bN ?_
   refine At.tN ?_
   refine At.seq ?_
   refine At.plain [ff 0, ff 1, ff 2, ff 3, ff 4, ff 5, ff 6, ff 7, ff 8, ff 9, ff 10, ff 11] rfl ?_
   refine eA rfl (R.move (.t rfl)) ?_
   refine eA rfl (R.nilCheckP (.t rfl)) ?_
   refine eA rfl (R.fieldAddr fo_85_6 (.t rfl)) ?_
   refine eA rfl (R.load Tryz.underlying83 rfl (.t rfl) (cN M0 rfl)) ?_
   refine eA rfl (R.move (.t rfl)) ?_
   refine eA rfl (R.indexN Tryz.underlying83 sz_136 (.t rfl) (by assumption) (.t rfl) (fun hg => (midB))) ?_
   refine eA rfl (R.fieldE fo_136_5 (.t rfl) (by assumption)) ?_
   refine eA rfl (R.loadRd Tryz.underlying3 rfl (.t rfl) (wN M2) (fun hg => by exact Ek.getM rfl)) ?_
   refine eA rfl (R.addI (.t rfl) .c (fun hg => by (try dsimp only); omega)) ?_
   refine eA rfl (R.indexN Tryz.underlying83 sz_136 (.t rfl) (by assumption) (.t rfl) (fun hg => (midB))) ?_
   refine eA rfl (R.fieldE fo_136_5 (.t rfl) (by assumption)) ?_
   refine At.stFld (k := evK) 8 (((ev.wAlloc x.now).wAn ⟨px.e, false, 0, 0, 0⟩ ⟨.slice none 0 0, rfl⟩).wSteps (ev.steps + 1)) [.int .i64 (ev.steps + 1)] rfl rfl sz_3 (.t rfl) (.t rfl) rfl rfl (Nat.le_of_ble_eq_true rfl) (.n U2) rfl ⟨.all, ?_⟩
   refine At.nil ?_
   refine At.tN ?_
   refine At.seq ?_
   refine At.plain [ff 0] rfl ?_
   refine eA rfl (R.move (.t rfl)) ?_
   refine At.nil ?_
   refine At.tN ?_
   refine At.cond (.t rfl) (fun c4 => ?_) (fun c4 => ?_)
   ·
    refine At.seq ?_
    refine At.plain [ff 0, ff 1, ff 2, ff 3] rfl ?_
    refine eA rfl (R.move (.t rfl)) ?_
    refine eA rfl (R.nilCheckE (.t rfl) (by assumption)) ?_
    refine eA rfl (R.fieldE fo_116_1 (.t rfl) (by assumption)) ?_
    refine At.stFld (k := thK) 1 (⟨nx, false, sc, some pu, pg, psc⟩ : Th) [.bool false] rfl rfl sz_4 (.t rfl) .c rfl rfl (Nat.le_of_ble_eq_true rfl) (.n U1) rfl ⟨.all, ?_⟩
    refine W ?_
    refine At.drawM ([maB mb Ov Pv dv ba Tv Kv Gv x, rowE thK 116 Tv (a ++ (⟨nx, false, sc, some pu, pg, psc⟩ : Th) :: b), rowE evK 136 Gv (ea ++ (((ev.wAlloc x.now).wAn ⟨px.e, false, 0, 0, 0⟩ ⟨.slice none 0 0, rfl⟩).wSteps (ev.steps + 1)) :: eb), raB ba wv r2, raW wv n r2, puB pu pDv pwp pxp pmp pov px]) ([]) [tt 0, tt 1, tt 2, tt 4, tt 5, tt 6, tt 7] [tt 3, tt 8] [tt 9, tt 10, ff 11] (by (exact keepOf (by (apply List.Sublist.cons; apply List.Sublist.cons; apply List.Sublist.cons; apply List.sublist_append_of_sublist_right; apply List.Sublist.cons_cons; apply List.Sublist.cons_cons; apply List.Sublist.cons_cons; apply List.Sublist.cons_cons; apply List.Sublist.cons_cons; apply List.Sublist.cons_cons; exact List.nil_sublist _)))) (fun _ h => nomatch h) (by kernel_rfl) (by kernel_rfl) ?_
    refine sC rfl Cl.none (R.move (.t rfl)) ?_
    refine sC rfl Cl.none (R.nilCheckP (.t rfl)) ?_
    refine sC rfl Cl.none (R.fieldAddr fo_85_6 (.t rfl)) ?_
    refine sC rfl Cl.none (R.move (.t rfl)) ?_
    refine sC rfl Cl.none (R.move (.t rfl)) ?_
    refine sC rfl Cl.none (R.nilCheckP (.t rfl)) ?_
    refine sC rfl Cl.none (R.fieldAddr fo_85_3 (.t rfl)) ?_
    refine At.stage kz ?_
    refine sC rfl kz (R.load Tryz.underlying83 rfl (.t rfl) (cK M0 rfl)) ?_
    refine sC rfl kz (R.load Tryz.underlying3 rfl (.t rfl) (cK M0 rfl)) ?_
    refine At.stage Cl.none ?_
    refine sC rfl Cl.none (R.indexN Tryz.underlying83 sz_136 (.t rfl) (by assumption) (.t rfl) (fun hg => (midB))) ?_
    refine sC rfl Cl.none (R.fieldE fo_136_4 (.t rfl) (by assumption)) ?_
    refine At.stFld (k := evK) 7 ((((ev.wAlloc x.now).wAn ⟨px.e, false, 0, 0, 0⟩ ⟨.slice none 0 0, rfl⟩).wSteps (ev.steps + 1)).wFin x.now) [.int .i64 x.now] rfl rfl sz_3 (.t rfl) (.t rfl) rfl rfl (Nat.le_of_ble_eq_true rfl) (.n U2) rfl ⟨Cl.none, ?_⟩
    refine W ?_
    exact At.finalX0 (N' := maB mb Ov Pv dv ba Tv Kv Gv x :: rowE thK 116 Tv (a ++ (⟨nx, false, sc, some pu, pg, psc⟩ : Th) :: b) :: rowE evK 136 Gv (ea ++ ((((ev.wAlloc x.now).wAn ⟨px.e, false, 0, 0, 0⟩ ⟨.slice none 0 0, rfl⟩).wSteps (ev.steps + 1)).wFin x.now) :: eb) :: raB ba wv r2 :: raW wv n r2 :: puB pu pDv pwp pxp pmp pov px :: NN) hds how rfl (List.Sublist.refl _) (⟨r2, _, _, _, rfl, rfl, hr2, rfl, rfl, rfl, .inl ⟨pu, rfl, hP3⟩⟩) _ (.inr rfl)
   ·
    refine W ?_
    exact At.finalX0 (N' := maB mb Ov Pv dv ba Tv Kv Gv x :: rowE thK 116 Tv (a ++ (⟨nx, bz, sc, some pu, pg, psc⟩ : Th) :: b) :: rowE evK 136 Gv (ea ++ (((ev.wAlloc x.now).wAn ⟨px.e, false, 0, 0, 0⟩ ⟨.slice none 0 0, rfl⟩).wSteps (ev.steps + 1)) :: eb) :: raB ba wv r2 :: raW wv n r2 :: puB pu pDv pwp pxp pmp pov px :: NN) hds how rfl (List.Sublist.refl _) (⟨r2, _, _, _, rfl, rfl, hr2, rfl, rfl, rfl, .inl ⟨pu, rfl, hP3⟩⟩) _ (.inr rfl)
  ·
   refine At.seq ?_
   refine At.plain [ff 0] rfl ?_
   refine eA rfl (R.move (.t rfl)) ?_
   refine At.nil ?_
   refine At.tN ?_
   refine At.cond (.t rfl) (fun c4 => ?_) (fun c4 => ?_)
   ·
    refine At.drawM ([maB mb Ov Pv dv ba Tv Kv Gv x, rowE thK 116 Tv (a ++ (⟨nx, bz, sc, some pu, pg, psc⟩ : Th) :: b), rowE evK 136 Gv (ea ++ (ev.wAlloc x.now) :: eb), raB ba wv r2, raW wv n r2, puB pu pDv pwp pxp pmp pov px]) ([]) [tt 0, tt 1, tt 2, tt 4, tt 5, tt 6, tt 7] [tt 3, tt 8, tt 9, tt 10, tt 11, tt 12] [tt 13, tt 14, ff 15] (by (exact keepOf (by (apply List.Sublist.cons; apply List.Sublist.cons; apply List.Sublist.cons; apply List.sublist_append_of_sublist_right; apply List.Sublist.cons_cons; apply List.Sublist.cons_cons; apply List.Sublist.cons_cons; apply List.Sublist.cons_cons; apply List.Sublist.cons_cons; apply List.Sublist.cons_cons; exact List.nil_sublist _)))) (fun _ h => nomatch h) (by kernel_rfl) (by kernel_rfl) ?_
    refine sC rfl Cl.none (R.move (.t rfl)) ?_
    refine sC rfl Cl.none (R.nilCheckP (.t rfl)) ?_
    refine sC rfl Cl.none (R.fieldAddr fo_85_6 (.t rfl)) ?_
    refine sC rfl Cl.none (R.move (.t rfl)) ?_
    refine sC rfl Cl.none (R.move (.t rfl)) ?_
    refine sC rfl Cl.none (R.nilCheckE (.t rfl) (by assumption)) ?_
    refine sC rfl Cl.none (R.fieldE fo_116_3 (.t rfl) (by assumption)) ?_
    refine At.stage kz ?_
    refine sC rfl kz (R.load Tryz.underlying83 rfl (.t rfl) (cK M0 rfl)) ?_
    refine sC rfl kz (R.loadRd Tryz.underlying112 rfl (.t rfl) (wK M1) (fun hg => by exact Ek.getM rfl)) ?_
    refine sC rfl kz (R.nilCheckP (.t rfl)) ?_
    refine sC rfl kz (R.fieldAddr fo_145_8 (.t rfl)) ?_
    refine sC rfl kz (R.load Tryz.underlying3 rfl (.t rfl) (cK M5 rfl)) ?_
    refine sC rfl kz (R.build bt_134 (.kc (.k rfl .nil)) (.cons rfl (.cons rfl .nil)) rfl) ?_
    refine At.stage Cl.none ?_
    refine sC rfl Cl.none (R.indexN Tryz.underlying83 sz_136 (.t rfl) (by assumption) (.t rfl) (fun hg => (midB))) ?_
    refine sC rfl Cl.none (R.fieldE fo_136_9 (.t rfl) (by assumption)) ?_
    refine At.stFld (k := evK) 12 ((ev.wAlloc x.now).wAn ⟨0, false, 0, -1, px.version⟩ ⟨.slice none 0 0, rfl⟩) [.int .i64 0, .bool false, .int .i64 0, .int .i64 (-1), .int .i64 px.version, .slice none 0 0] rfl rfl sz_134 (.t rfl) (.t rfl) rfl rfl (Nat.le_of_ble_eq_true rfl) (.n U2) rfl ⟨Cl.none, ?_⟩
    refine At.nil ?_
    refine At.bN ?_
    refine At.tN ?_
    refine At.seq ?_
    refine At.plain [ff 0, ff 1, ff 2, ff 3, ff 4, ff 5, ff 6, ff 7, ff 8, ff 9, ff 10, ff 11] rfl ?_
    refine eA rfl (R.move (.t rfl)) ?_
    refine eA rfl (R.nilCheckP (.t rfl)) ?_
    refine eA rfl (R.fieldAddr fo_85_6 (.t rfl)) ?_
    refine eA rfl (R.load Tryz.underlying83 rfl (.t rfl) (cN M0 rfl)) ?_
    refine eA rfl (R.move (.t rfl)) ?_
    refine eA rfl (R.indexN Tryz.underlying83 sz_136 (.t rfl) (by assumption) (.t rfl) (fun hg => (midB))) ?_
    refine eA rfl (R.fieldE fo_136_5 (.t rfl) (by assumption)) ?_
    refine eA rfl (R.loadRd Tryz.underlying3 rfl (.t rfl) (wN M2) (fun hg => by exact Ek.getM rfl)) ?_
    refine eA rfl (R.addI (.t rfl) .c (fun hg => by (try dsimp only); omega)) ?_
    refine eA rfl (R.indexN Tryz.underlying83 sz_136 (.t rfl) (by assumption) (.t rfl) (fun hg => (midB))) ?_
    refine eA rfl (R.fieldE fo_136_5 (.t rfl) (by assumption)) ?_
    refine At.stFld (k := evK) 8 (((ev.wAlloc x.now).wAn ⟨0, false, 0, -1, px.version⟩ ⟨.slice none 0 0, rfl⟩).wSteps (ev.steps + 1)) [.int .i64 (ev.steps + 1)] rfl rfl sz_3 (.t rfl) (.t rfl) rfl rfl (Nat.le_of_ble_eq_true rfl) (.n U2) rfl ⟨.all, ?_⟩
    refine At.nil ?_
    refine At.tN ?_
    refine At.seq ?_
    refine At.plain [ff 0] rfl ?_
    refine eA rfl (R.move (.t rfl)) ?_
    refine At.nil ?_
    refine At.tN ?_
    refine At.cond (.t rfl) (fun c5 => ?_) (fun c5 => ?_)
    ·
     refine At.seq ?_
     refine At.plain [ff 0, ff 1, ff 2, ff 3] rfl ?_
     refine eA rfl (R.move (.t rfl)) ?_
     refine eA rfl (R.nilCheckE (.t rfl) (by assumption)) ?_
     refine eA rfl (R.fieldE fo_116_1 (.t rfl) (by assumption)) ?_
     refine At.stFld (k := thK) 1 (⟨nx, false, sc, some pu, pg, psc⟩ : Th) [.bool false] rfl rfl sz_4 (.t rfl) .c rfl rfl (Nat.le_of_ble_eq_true rfl) (.n U1) rfl ⟨.all, ?_⟩
     refine W ?_
     refine At.drawM ([maB mb Ov Pv dv ba Tv Kv Gv x, rowE thK 116 Tv (a ++ (⟨nx, false, sc, some pu, pg, psc⟩ : Th) :: b), rowE evK 136 Gv (ea ++ (((ev.wAlloc x.now).wAn ⟨0, false, 0, -1, px.version⟩ ⟨.slice none 0 0, rfl⟩).wSteps (ev.steps + 1)) :: eb), raB ba wv r2, raW wv n r2, puB pu pDv pwp pxp pmp pov px]) ([]) [tt 0, tt 1, tt 2, tt 4, tt 5, tt 6, tt 7] [tt 3, tt 8] [tt 9, tt 10, ff 11] (by (exact keepOf (by (apply List.Sublist.cons; apply List.Sublist.cons; apply List.Sublist.cons; apply List.sublist_append_of_sublist_right; apply List.Sublist.cons_cons; apply List.Sublist.cons_cons; apply List.Sublist.cons_cons; apply List.Sublist.cons_cons; apply List.Sublist.cons_cons; apply List.Sublist.cons_cons; exact List.nil_sublist _)))) (fun _ h => nomatch h) (by kernel_rfl) (by kernel_rfl) ?_
     refine sC rfl Cl.none (R.move (.t rfl)) ?_
     refine sC rfl Cl.none (R.nilCheckP (.t rfl)) ?_
     refine sC rfl Cl.none (R.fieldAddr fo_85_6 (.t rfl)) ?_
     refine sC rfl Cl.none (R.move (.t rfl)) ?_
     refine sC rfl Cl.none (R.move (.t rfl)) ?_
     refine sC rfl Cl.none (R.nilCheckP (.t rfl)) ?_
     refine sC rfl Cl.none (R.fieldAddr fo_85_3 (.t rfl)) ?_
     refine At.stage kz ?_
     refine sC rfl kz (R.load Tryz.underlying83 rfl (.t rfl) (cK M0 rfl)) ?_
     refine sC rfl kz (R.load Tryz.underlying3 rfl (.t rfl) (cK M0 rfl)) ?_
     refine At.stage Cl.none ?_
     refine sC rfl Cl.none (R.indexN Tryz.underlying83 sz_136 (.t rfl) (by assumption) (.t rfl) (fun hg => (midB))) ?_
     refine sC rfl Cl.none (R.fieldE fo_136_4 (.t rfl) (by assumption)) ?_
     refine At.stFld (k := evK) 7 ((((ev.wAlloc x.now).wAn ⟨0, false, 0, -1, px.version⟩ ⟨.slice none 0 0, rfl⟩).wSteps (ev.steps + 1)).wFin x.now) [.int .i64 x.now] rfl rfl sz_3 (.t rfl) (.t rfl) rfl rfl (Nat.le_of_ble_eq_true rfl) (.n U2) rfl ⟨Cl.none, ?_⟩
     refine W ?_
     exact At.finalX0 (N' := maB mb Ov Pv dv ba Tv Kv Gv x :: rowE thK 116 Tv (a ++ (⟨nx, false, sc, some pu, pg, psc⟩ : Th) :: b) :: rowE evK 136 Gv (ea ++ ((((ev.wAlloc x.now).wAn ⟨0, false, 0, -1, px.version⟩ ⟨.slice none 0 0, rfl⟩).wSteps (ev.steps + 1)).wFin x.now) :: eb) :: raB ba wv r2 :: raW wv n r2 :: puB pu pDv pwp pxp pmp pov px :: NN) hds how rfl (List.Sublist.refl _) (⟨r2, _, _, _, rfl, rfl, hr2, rfl, rfl, rfl, .inl ⟨pu, rfl, hP3⟩⟩) _ (.inr rfl)
    ·
     refine W ?_
     exact At.finalX0 (N' := maB mb Ov Pv dv ba Tv Kv Gv x :: rowE thK 116 Tv (a ++ (⟨nx, bz, sc, some pu, pg, psc⟩ : Th) :: b) :: rowE evK 136 Gv (ea ++ (((ev.wAlloc x.now).wAn ⟨0, false, 0, -1, px.version⟩ ⟨.slice none 0 0, rfl⟩).wSteps (ev.steps + 1)) :: eb) :: raB ba wv r2 :: raW wv n r2 :: puB pu pDv pwp pxp pmp pov px :: NN) hds how rfl (List.Sublist.refl _) (⟨r2, _, _, _, rfl, rfl, hr2, rfl, rfl, rfl, .inl ⟨pu, rfl, hP3⟩⟩) _ (.inr rfl)
   ·
    refine At.skip ?_
    refine At.bN ?_
    refine At.tN ?_
    refine At.seq ?_
    refine At.plain [ff 0, ff 1, ff 2, ff 3, ff 4, ff 5, ff 6, ff 7, ff 8, ff 9, ff 10, ff 11] rfl ?_
    refine eA rfl (R.move (.t rfl)) ?_
    refine eA rfl (R.nilCheckP (.t rfl)) ?_
    refine eA rfl (R.fieldAddr fo_85_6 (.t rfl)) ?_
    refine eA rfl (R.load Tryz.underlying83 rfl (.t rfl) (cN M0 rfl)) ?_
    refine eA rfl (R.move (.t rfl)) ?_
    refine eA rfl (R.indexN Tryz.underlying83 sz_136 (.t rfl) (by assumption) (.t rfl) (fun hg => (midB))) ?_
    refine eA rfl (R.fieldE fo_136_5 (.t rfl) (by assumption)) ?_
    refine eA rfl (R.loadRd Tryz.underlying3 rfl (.t rfl) (wN M2) (fun hg => by exact Ek.getM rfl)) ?_
    refine eA rfl (R.addI (.t rfl) .c (fun hg => by (try dsimp only); omega)) ?_
    refine eA rfl (R.indexN Tryz.underlying83 sz_136 (.t rfl) (by assumption) (.t rfl) (fun hg => (midB))) ?_
    refine eA rfl (R.fieldE fo_136_5 (.t rfl) (by assumption)) ?_
    refine At.stFld (k := evK) 8 ((ev.wAlloc x.now).wSteps (ev.steps + 1)) [.int .i64 (ev.steps + 1)] rfl rfl sz_3 (.t rfl) (.t rfl) rfl rfl (Nat.le_of_ble_eq_true rfl) (.n U2) rfl ⟨.all, ?_⟩
    refine At.nil ?_
    refine At.tN ?_
    refine At.seq ?_
    refine At.plain [ff 0] rfl ?_
    refine eA rfl (R.move (.t rfl)) ?_
    refine At.nil ?_
    refine At.tN ?_
    refine At.cond (.t rfl) (fun c5 => ?_) (fun c5 => ?_)
    ·
     refine At.seq ?_
     refine At.plain [ff 0, ff 1, ff 2, ff 3] rfl ?_
     refine eA rfl (R.move (.t rfl)) ?_
     refine eA rfl (R.nilCheckE (.t rfl) (by assumption)) ?_
     refine eA rfl (R.fieldE fo_116_1 (.t rfl) (by assumption)) ?_
     refine At.stFld (k := thK) 1 (⟨nx, false, sc, some pu, pg, psc⟩ : Th) [.bool false] rfl rfl sz_4 (.t rfl) .c rfl rfl (Nat.le_of_ble_eq_true rfl) (.n U1) rfl ⟨.all, ?_⟩
     refine W ?_
     refine At.drawM ([maB mb Ov Pv dv ba Tv Kv Gv x, rowE thK 116 Tv (a ++ (⟨nx, false, sc, some pu, pg, psc⟩ : Th) :: b), rowE evK 136 Gv (ea ++ ((ev.wAlloc x.now).wSteps (ev.steps + 1)) :: eb), raB ba wv r2, raW wv n r2, puB pu pDv pwp pxp pmp pov px]) ([]) [tt 0, tt 1, tt 2, tt 4, tt 5, tt 6, tt 7] [tt 3, tt 8] [tt 9, tt 10, ff 11] (by (exact keepOf (by (apply List.Sublist.cons; apply List.Sublist.cons; apply List.Sublist.cons; apply List.sublist_append_of_sublist_right; apply List.Sublist.cons_cons; apply List.Sublist.cons_cons; apply List.Sublist.cons_cons; apply List.Sublist.cons_cons; apply List.Sublist.cons_cons; apply List.Sublist.cons_cons; exact List.nil_sublist _)))) (fun _ h => nomatch h) (by kernel_rfl) (by kernel_rfl) ?_
     refine sC rfl Cl.none (R.move (.t rfl)) ?_
     refine sC rfl Cl.none (R.nilCheckP (.t rfl)) ?_
     refine sC rfl Cl.none (R.fieldAddr fo_85_6 (.t rfl)) ?_
     refine sC rfl Cl.none (R.move (.t rfl)) ?_
     refine sC rfl Cl.none (R.move (.t rfl)) ?_
     refine sC rfl Cl.none (R.nilCheckP (.t rfl)) ?_
     refine sC rfl Cl.none (R.fieldAddr fo_85_3 (.t rfl)) ?_
     refine At.stage kz ?_
     refine sC rfl kz (R.load Tryz.underlying83 rfl (.t rfl) (cK M0 rfl)) ?_
     refine sC rfl kz (R.load Tryz.underlying3 rfl (.t rfl) (cK M0 rfl)) ?_
     refine At.stage Cl.none ?_
     refine sC rfl Cl.none (R.indexN Tryz.underlying83 sz_136 (.t rfl) (by assumption) (.t rfl) (fun hg => (midB))) ?_
     refine sC rfl Cl.none (R.fieldE fo_136_4 (.t rfl) (by assumption)) ?_
     refine At.stFld (k := evK) 7 (((ev.wAlloc x.now).wSteps (ev.steps + 1)).wFin x.now) [.int .i64 x.now] rfl rfl sz_3 (.t rfl) (.t rfl) rfl rfl (Nat.le_of_ble_eq_true rfl) (.n U2) rfl ⟨Cl.none, ?_⟩
     refine W ?_
     exact At.finalX0 (N' := maB mb Ov Pv dv ba Tv Kv Gv x :: rowE thK 116 Tv (a ++ (⟨nx, false, sc, some pu, pg, psc⟩ : Th) :: b) :: rowE evK 136 Gv (ea ++ (((ev.wAlloc x.now).wSteps (ev.steps + 1)).wFin x.now) :: eb) :: raB ba wv r2 :: raW wv n r2 :: puB pu pDv pwp pxp pmp pov px :: NN) hds how rfl (List.Sublist.refl _) (⟨r2, _, _, _, rfl, rfl, hr2, rfl, rfl, rfl, .inl ⟨pu, rfl, hP3⟩⟩) _ (.inr rfl)
    ·
     refine W ?_
     exact At.finalX0 (N' := maB mb Ov Pv dv ba Tv Kv Gv x :: rowE thK 116 Tv (a ++ (⟨nx, bz, sc, some pu, pg, psc⟩ : Th) :: b) :: rowE evK 136 Gv (ea ++ ((ev.wAlloc x.now).wSteps (ev.steps + 1)) :: eb) :: raB ba wv r2 :: raW wv n r2 :: puB pu pDv pwp pxp pmp pov px :: NN) hds how rfl (List.Sublist.refl _) (⟨r2, _, _, _, rfl, rfl, hr2, rfl, rfl, rfl, .inl ⟨pu, rfl, hP3⟩⟩) _ (.inr rfl)
 ·
  refine At.skip ?_
  refine At.tN ?_
  refine At.seq ?_
  refine At.plain [ff 0, ff 1, ff 2, ff 3, ff 4, ff 5, ff 6, ff 7, ff 8, ff 9, ff 10] rfl ?_
  refine eA rfl (R.move (.t rfl)) ?_
  refine eA rfl (R.move (.t rfl)) ?_
  refine eA rfl (R.move (.t rfl)) ?_
  refine eA rfl (R.nilCheckE (.s rfl) (by assumption)) ?_
  refine eA rfl (R.fieldE fo_116_3 (.s rfl) (by assumption)) ?_
  refine eA rfl (R.loadRd Tryz.underlying112 rfl (.s rfl) (wN M1) (fun hg => by exact Ek.getM rfl)) ?_
  refine eA rfl (R.nilCheckP (.s rfl)) ?_
  refine eA rfl (R.fieldAddr fo_145_9 (.s rfl)) ?_
  refine eA rfl (R.load Tryz.underlying3 rfl (.s rfl) (cN M5 rfl)) ?_
  refine eA rfl (R.neq (.s rfl) .c) ?_
  refine eA rfl (R.pickAnd (.t rfl) rfl (by (intro hg h; rw [h]; rfl))) ?_
  refine At.nil ?_
  refine At.tN ?_
  refine At.cond (.t rfl) (fun c3 => ?_) (fun c3 => ?_)
  ·
   refine At.drawM ([maB mb Ov Pv dv ba Tv Kv Gv x, rowE thK 116 Tv (a ++ (⟨nx, bz, sc, some pu, pg, psc⟩ : Th) :: b), rowE evK 136 Gv (ea ++ ev :: eb), raB ba wv r2, raW wv n r2, puB pu pDv pwp pxp pmp pov px]) ([]) [tt 0, tt 1, tt 2, tt 4, tt 5, tt 6, tt 7] [tt 3, tt 8, tt 9, tt 10, tt 11, tt 12] [tt 13, tt 14, ff 15] (by (exact keepOf (by (apply List.Sublist.cons; apply List.Sublist.cons; apply List.Sublist.cons; apply List.sublist_append_of_sublist_right; apply List.Sublist.cons_cons; apply List.Sublist.cons_cons; apply List.Sublist.cons_cons; apply List.Sublist.cons_cons; apply List.Sublist.cons_cons; apply List.Sublist.cons_cons; exact List.nil_sublist _)))) (fun _ h => nomatch h) (by kernel_rfl) (by kernel_rfl) ?_
   refine sC rfl Cl.none (R.move (.t rfl)) ?_
   refine sC rfl Cl.none (R.nilCheckP (.t rfl)) ?_
   refine sC rfl Cl.none (R.fieldAddr fo_85_6 (.t rfl)) ?_
   refine sC rfl Cl.none (R.move (.t rfl)) ?_
   refine sC rfl Cl.none (R.move (.t rfl)) ?_
   refine sC rfl Cl.none (R.nilCheckE (.t rfl) (by assumption)) ?_
   refine sC rfl Cl.none (R.fieldE fo_116_3 (.t rfl) (by assumption)) ?_
   refine At.stage kz ?_
   refine sC rfl kz (R.load Tryz.underlying83 rfl (.t rfl) (cK M0 rfl)) ?_
   refine sC rfl kz (R.loadRd Tryz.underlying112 rfl (.t rfl) (wK M1) (fun hg => by exact Ek.getM rfl)) ?_
   refine sC rfl kz (R.nilCheckP (.t rfl)) ?_
   refine sC rfl kz (R.fieldAddr fo_145_9 (.t rfl)) ?_
   refine sC rfl kz (R.load Tryz.underlying3 rfl (.t rfl) (cK M5 rfl)) ?_
   refine sC rfl kz (R.build bt_134 (.k rfl .nil) (.cons rfl .nil) rfl) ?_
   refine At.stage Cl.none ?_
   refine sC rfl Cl.none (R.indexN Tryz.underlying83 sz_136 (.t rfl) (by assumption) (.t rfl) (fun hg => (midB))) ?_
   refine sC rfl Cl.none (R.fieldE fo_136_9 (.t rfl) (by assumption)) ?_
   refine At.stFld (k := evK) 12 (ev.wAn ⟨px.e, false, 0, 0, 0⟩ ⟨.slice none 0 0, rfl⟩) [.int .i64 px.e, .bool false, .int .i64 0, .int .i64 0, .int .i64 0, .slice none 0 0] rfl rfl sz_134 (.t rfl) (.t rfl) rfl rfl (Nat.le_of_ble_eq_true rfl) (.n U2) rfl ⟨Cl.none, ?_⟩
   refine At.nil ?_
   refine At.bN ?_
   refine At.tN ?_
   refine At.seq ?_
   refine At.plain [ff 0, ff 1, ff 2, ff 3, ff 4, ff 5, ff 6, ff 7, ff 8, ff 9, ff 10, ff 11] rfl ?_
   refine eA rfl (R.move (.t rfl)) ?_
   refine eA rfl (R.nilCheckP (.t rfl)) ?_
   refine eA rfl (R.fieldAddr fo_85_6 (.t rfl)) ?_
   refine eA rfl (R.load Tryz.underlying83 rfl (.t rfl) (cN M0 rfl)) ?_
   refine eA rfl (R.move (.t rfl)) ?_
   refine eA rfl (R.indexN Tryz.underlying83 sz_136 (.t rfl) (by assumption) (.t rfl) (fun hg => (midB))) ?_
   refine eA rfl (R.fieldE fo_136_5 (.t rfl) (by assumption)) ?_
   refine eA rfl (R.loadRd Tryz.underlying3 rfl (.t rfl) (wN M2) (fun hg => by exact Ek.getM rfl)) ?_
   refine eA rfl (R.addI (.t rfl) .c (fun hg => by (try dsimp only); omega)) ?_
   refine eA rfl (R.indexN Tryz.underlying83 sz_136 (.t rfl) (by assumption) (.t rfl) (fun hg => (midB))) ?_
   refine eA rfl (R.fieldE fo_136_5 (.t rfl) (by assumption)) ?_
   refine At.stFld (k := evK) 8 ((ev.wAn ⟨px.e, false, 0, 0, 0⟩ ⟨.slice none 0 0, rfl⟩).wSteps (ev.steps + 1)) [.int .i64 (ev.steps + 1)] rfl rfl sz_3 (.t rfl) (.t rfl) rfl rfl (Nat.le_of_ble_eq_true rfl) (.n U2) rfl ⟨.all, ?_⟩
   refine At.nil ?_
   refine At.tN ?_
   refine At.seq ?_
   refine At.plain [ff 0] rfl ?_
   refine eA rfl (R.move (.t rfl)) ?_
   refine At.nil ?_
   refine At.tN ?_
   refine At.cond (.t rfl) (fun c4 => ?_) (fun c4 => ?_)
   ·
    refine At.seq ?_
    refine At.plain [ff 0, ff 1, ff 2, ff 3] rfl ?_
    refine eA rfl (R.move (.t rfl)) ?_
    refine eA rfl (R.nilCheckE (.t rfl) (by assumption)) ?_
    refine eA rfl (R.fieldE fo_116_1 (.t rfl) (by assumption)) ?_
    refine At.stFld (k := thK) 1 (⟨nx, false, sc, some pu, pg, psc⟩ : Th) [.bool false] rfl rfl sz_4 (.t rfl) .c rfl rfl (Nat.le_of_ble_eq_true rfl) (.n U1) rfl ⟨.all, ?_⟩
    refine W ?_
    refine At.drawM ([maB mb Ov Pv dv ba Tv Kv Gv x, rowE thK 116 Tv (a ++ (⟨nx, false, sc, some pu, pg, psc⟩ : Th) :: b), rowE evK 136 Gv (ea ++ ((ev.wAn ⟨px.e, false, 0, 0, 0⟩ ⟨.slice none 0 0, rfl⟩).wSteps (ev.steps + 1)) :: eb), raB ba wv r2, raW wv n r2, puB pu pDv pwp pxp pmp pov px]) ([]) [tt 0, tt 1, tt 2, tt 4, tt 5, tt 6, tt 7] [tt 3, tt 8] [tt 9, tt 10, ff 11] (by (exact keepOf (by (apply List.Sublist.cons; apply List.Sublist.cons; apply List.Sublist.cons; apply List.sublist_append_of_sublist_right; apply List.Sublist.cons_cons; apply List.Sublist.cons_cons; apply List.Sublist.cons_cons; apply List.Sublist.cons_cons; apply List.Sublist.cons_cons; apply List.Sublist.cons_cons; exact List.nil_sublist _)))) (fun _ h => nomatch h) (by kernel_rfl) (by kernel_rfl) ?_
    refine sC rfl Cl.none (R.move (.t rfl)) ?_
    refine sC rfl Cl.none (R.nilCheckP (.t rfl)) ?_
    refine sC rfl Cl.none (R.fieldAddr fo_85_6 (.t rfl)) ?_
    refine sC rfl Cl.none (R.move (.t rfl)) ?_
    refine sC rfl Cl.none (R.move (.t rfl)) ?_
    refine sC rfl Cl.none (R.nilCheckP (.t rfl)) ?_
    refine sC rfl Cl.none (R.fieldAddr fo_85_3 (.t rfl)) ?_
    refine At.stage kz ?_
    refine sC rfl kz (R.load Tryz.underlying83 rfl (.t rfl) (cK M0 rfl)) ?_
    refine sC rfl kz (R.load Tryz.underlying3 rfl (.t rfl) (cK M0 rfl)) ?_
    refine At.stage Cl.none ?_
    refine sC rfl Cl.none (R.indexN Tryz.underlying83 sz_136 (.t rfl) (by assumption) (.t rfl) (fun hg => (midB))) ?_
    refine sC rfl Cl.none (R.fieldE fo_136_4 (.t rfl) (by assumption)) ?_
    refine At.stFld (k := evK) 7 (((ev.wAn ⟨px.e, false, 0, 0, 0⟩ ⟨.slice none 0 0, rfl⟩).wSteps (ev.steps + 1)).wFin x.now) [.int .i64 x.now] rfl rfl sz_3 (.t rfl) (.t rfl) rfl rfl (Nat.le_of_ble_eq_true rfl) (.n U2) rfl ⟨Cl.none, ?_⟩
    refine W ?_
    exact At.finalX0 (N' := maB mb Ov Pv dv ba Tv Kv Gv x :: rowE thK 116 Tv (a ++ (⟨nx, false, sc, some pu, pg, psc⟩ : Th) :: b) :: rowE evK 136 Gv (ea ++ (((ev.wAn ⟨px.e, false, 0, 0, 0⟩ ⟨.slice none 0 0, rfl⟩).wSteps (ev.steps + 1)).wFin x.now) :: eb) :: raB ba wv r2 :: raW wv n r2 :: puB pu pDv pwp pxp pmp pov px :: NN) hds how rfl (List.Sublist.refl _) (⟨r2, _, _, _, rfl, rfl, hr2, rfl, rfl, rfl, .inl ⟨pu, rfl, hP3⟩⟩) _ (.inr rfl)
   ·
    refine W ?_
    exact At.finalX0 (N' := maB mb Ov Pv dv ba Tv Kv Gv x :: rowE thK 116 Tv (a ++ (⟨nx, bz, sc, some pu, pg, psc⟩ : Th) :: b) :: rowE evK 136 Gv (ea ++ ((ev.wAn ⟨px.e, false, 0, 0, 0⟩ ⟨.slice none 0 0, rfl⟩).wSteps (ev.steps + 1)) :: eb) :: raB ba wv r2 :: raW wv n r2 :: puB pu pDv pwp pxp pmp pov px :: NN) hds how rfl (List.Sublist.refl _) (⟨r2, _, _, _, rfl, rfl, hr2, rfl, rfl, rfl, .inl ⟨pu, rfl, hP3⟩⟩) _ (.inr rfl)
  ·
   refine At.seq ?_
   refine At.plain [ff 0] rfl ?_
   refine eA rfl (R.move (.t rfl)) ?_
   refine At.nil ?_
   refine At.tN ?_
   refine At.cond (.t rfl) (fun c4 => ?_) (fun c4 => ?_)
   ·
    refine At.drawM ([maB mb Ov Pv dv ba Tv Kv Gv x, rowE thK 116 Tv (a ++ (⟨nx, bz, sc, some pu, pg, psc⟩ : Th) :: b), rowE evK 136 Gv (ea ++ ev :: eb), raB ba wv r2, raW wv n r2, puB pu pDv pwp pxp pmp pov px]) ([]) [tt 0, tt 1, tt 2, tt 4, tt 5, tt 6, tt 7] [tt 3, tt 8, tt 9, tt 10, tt 11, tt 12] [tt 13, tt 14, ff 15] (by (exact keepOf (by (apply List.Sublist.cons; apply List.Sublist.cons; apply List.Sublist.cons; apply List.sublist_append_of_sublist_right; apply List.Sublist.cons_cons; apply List.Sublist.cons_cons; apply List.Sublist.cons_cons; apply List.Sublist.cons_cons; apply List.Sublist.cons_cons; apply List.Sublist.cons_cons; exact List.nil_sublist _)))) (fun _ h => nomatch h) (by kernel_rfl) (by kernel_rfl) ?_
    refine sC rfl Cl.none (R.move (.t rfl)) ?_
    refine sC rfl Cl.none (R.nilCheckP (.t rfl)) ?_
    refine sC rfl Cl.none (R.fieldAddr fo_85_6 (.t rfl)) ?_
    refine sC rfl Cl.none (R.move (.t rfl)) ?_
    refine sC rfl Cl.none (R.move (.t rfl)) ?_
    refine sC rfl Cl.none (R.nilCheckE (.t rfl) (by assumption)) ?_
    refine sC rfl Cl.none (R.fieldE fo_116_3 (.t rfl) (by assumption)) ?_
    refine At.stage kz ?_
    refine sC rfl kz (R.load Tryz.underlying83 rfl (.t rfl) (cK M0 rfl)) ?_
    refine sC rfl kz (R.loadRd Tryz.underlying112 rfl (.t rfl) (wK M1) (fun hg => by exact Ek.getM rfl)) ?_
    refine sC rfl kz (R.nilCheckP (.t rfl)) ?_
    refine sC rfl kz (R.fieldAddr fo_145_8 (.t rfl)) ?_
    refine sC rfl kz (R.load Tryz.underlying3 rfl (.t rfl) (cK M5 rfl)) ?_
    refine sC rfl kz (R.build bt_134 (.kc (.k rfl .nil)) (.cons rfl (.cons rfl .nil)) rfl) ?_
    refine At.stage Cl.none ?_
    refine sC rfl Cl.none (R.indexN Tryz.underlying83 sz_136 (.t rfl) (by assumption) (.t rfl) (fun hg => (midB))) ?_
    refine sC rfl Cl.none (R.fieldE fo_136_9 (.t rfl) (by assumption)) ?_
    refine At.stFld (k := evK) 12 (ev.wAn ⟨0, false, 0, -1, px.version⟩ ⟨.slice none 0 0, rfl⟩) [.int .i64 0, .bool false, .int .i64 0, .int .i64 (-1), .int .i64 px.version, .slice none 0 0] rfl rfl sz_134 (.t rfl) (.t rfl) rfl rfl (Nat.le_of_ble_eq_true rfl) (.n U2) rfl ⟨Cl.none, ?_⟩
    refine At.nil ?_
    refine At.bN ?_
    refine At.tN ?_
    refine At.seq ?_
    refine At.plain [ff 0, ff 1, ff 2, ff 3, ff 4, ff 5, ff 6, ff 7, ff 8, ff 9, ff 10, ff 11] rfl ?_
    refine eA rfl (R.move (.t rfl)) ?_
    refine eA rfl (R.nilCheckP (.t rfl)) ?_
    refine eA rfl (R.fieldAddr fo_85_6 (.t rfl)) ?_
    refine eA rfl (R.load Tryz.underlying83 rfl (.t rfl) (cN M0 rfl)) ?_
    refine eA rfl (R.move (.t rfl)) ?_
    refine eA rfl (R.indexN Tryz.underlying83 sz_136 (.t rfl) (by assumption) (.t rfl) (fun hg => (midB))) ?_
    refine eA rfl (R.fieldE fo_136_5 (.t rfl) (by assumption)) ?_
    refine eA rfl (R.loadRd Tryz.underlying3 rfl (.t rfl) (wN M2) (fun hg => by exact Ek.getM rfl)) ?_
    refine eA rfl (R.addI (.t rfl) .c (fun hg => by (try dsimp only); omega)) ?_
    refine eA rfl (R.indexN Tryz.underlying83 sz_136 (.t rfl) (by assumption) (.t rfl) (fun hg => (midB))) ?_
    refine eA rfl (R.fieldE fo_136_5 (.t rfl) (by assumption)) ?_
    refine At.stFld (k := evK) 8 ((ev.wAn ⟨0, false, 0, -1, px.version⟩ ⟨.slice none 0 0, rfl⟩).wSteps (ev.steps + 1)) [.int .i64 (ev.steps + 1)] rfl rfl sz_3 (.t rfl) (.t rfl) rfl rfl (Nat.le_of_ble_eq_true rfl) (.n U2) rfl ⟨.all, ?_⟩
    refine At.nil ?_
    refine At.tN ?_
    refine At.seq ?_
    refine At.plain [ff 0] rfl ?_
    refine eA rfl (R.move (.t rfl)) ?_
    refine At.nil ?_
    refine At.tN ?_
    refine At.cond (.t rfl) (fun c5 => ?_) (fun c5 => ?_)
    ·
     refine At.seq ?_
     refine At.plain [ff 0, ff 1, ff 2, ff 3] rfl ?_
     refine eA rfl (R.move (.t rfl)) ?_
     refine eA rfl (R.nilCheckE (.t rfl) (by assumption)) ?_
     refine eA rfl (R.fieldE fo_116_1 (.t rfl) (by assumption)) ?_
     refine At.stFld (k := thK) 1 (⟨nx, false, sc, some pu, pg, psc⟩ : Th) [.bool false] rfl rfl sz_4 (.t rfl) .c rfl rfl (Nat.le_of_ble_eq_true rfl) (.n U1) rfl ⟨.all, ?_⟩
     refine W ?_
     refine At.drawM ([maB mb Ov Pv dv ba Tv Kv Gv x, rowE thK 116 Tv (a ++ (⟨nx, false, sc, some pu, pg, psc⟩ : Th) :: b), rowE evK 136 Gv (ea ++ ((ev.wAn ⟨0, false, 0, -1, px.version⟩ ⟨.slice none 0 0, rfl⟩).wSteps (ev.steps + 1)) :: eb), raB ba wv r2, raW wv n r2, puB pu pDv pwp pxp pmp pov px]) ([]) [tt 0, tt 1, tt 2, tt 4, tt 5, tt 6, tt 7] [tt 3, tt 8] [tt 9, tt 10, ff 11] (by (exact keepOf (by (apply List.Sublist.cons; apply List.Sublist.cons; apply List.Sublist.cons; apply List.sublist_append_of_sublist_right; apply List.Sublist.cons_cons; apply List.Sublist.cons_cons; apply List.Sublist.cons_cons; apply List.Sublist.cons_cons; apply List.Sublist.cons_cons; apply List.Sublist.cons_cons; exact List.nil_sublist _)))) (fun _ h => nomatch h) (by kernel_rfl) (by kernel_rfl) ?_
     refine sC rfl Cl.none (R.move (.t rfl)) ?_
     refine sC rfl Cl.none (R.nilCheckP (.t rfl)) ?_
     refine sC rfl Cl.none (R.fieldAddr fo_85_6 (.t rfl)) ?_
     refine sC rfl Cl.none (R.move (.t rfl)) ?_
     refine sC rfl Cl.none (R.move (.t rfl)) ?_
     refine sC rfl Cl.none (R.nilCheckP (.t rfl)) ?_
     refine sC rfl Cl.none (R.fieldAddr fo_85_3 (.t rfl)) ?_
     refine At.stage kz ?_
     refine sC rfl kz (R.load Tryz.underlying83 rfl (.t rfl) (cK M0 rfl)) ?_
     refine sC rfl kz (R.load Tryz.underlying3 rfl (.t rfl) (cK M0 rfl)) ?_
     refine At.stage Cl.none ?_
     refine sC rfl Cl.none (R.indexN Tryz.underlying83 sz_136 (.t rfl) (by assumption) (.t rfl) (fun hg => (midB))) ?_
     refine sC rfl Cl.none (R.fieldE fo_136_4 (.t rfl) (by assumption)) ?_
     refine At.stFld (k := evK) 7 (((ev.wAn ⟨0, false, 0, -1, px.version⟩ ⟨.slice none 0 0, rfl⟩).wSteps (ev.steps + 1)).wFin x.now) [.int .i64 x.now] rfl rfl sz_3 (.t rfl) (.t rfl) rfl rfl (Nat.le_of_ble_eq_true rfl) (.n U2) rfl ⟨Cl.none, ?_⟩
     refine W ?_
     exact At.finalX0 (N' := maB mb Ov Pv dv ba Tv Kv Gv x :: rowE thK 116 Tv (a ++ (⟨nx, false, sc, some pu, pg, psc⟩ : Th) :: b) :: rowE evK 136 Gv (ea ++ (((ev.wAn ⟨0, false, 0, -1, px.version⟩ ⟨.slice none 0 0, rfl⟩).wSteps (ev.steps + 1)).wFin x.now) :: eb) :: raB ba wv r2 :: raW wv n r2 :: puB pu pDv pwp pxp pmp pov px :: NN) hds how rfl (List.Sublist.refl _) (⟨r2, _, _, _, rfl, rfl, hr2, rfl, rfl, rfl, .inl ⟨pu, rfl, hP3⟩⟩) _ (.inr rfl)
    ·
     refine W ?_
     exact At.finalX0 (N' := maB mb Ov Pv dv ba Tv Kv Gv x :: rowE thK 116 Tv (a ++ (⟨nx, bz, sc, some pu, pg, psc⟩ : Th) :: b) :: rowE evK 136 Gv (ea ++ ((ev.wAn ⟨0, false, 0, -1, px.version⟩ ⟨.slice none 0 0, rfl⟩).wSteps (ev.steps + 1)) :: eb) :: raB ba wv r2 :: raW wv n r2 :: puB pu pDv pwp pxp pmp pov px :: NN) hds how rfl (List.Sublist.refl _) (⟨r2, _, _, _, rfl, rfl, hr2, rfl, rfl, rfl, .inl ⟨pu, rfl, hP3⟩⟩) _ (.inr rfl)
   ·
    refine At.skip ?_
    refine At.bN ?_
    refine At.tN ?_
    refine At.seq ?_
    refine At.plain [ff 0, ff 1, ff 2, ff 3, ff 4, ff 5, ff 6, ff 7, ff 8, ff 9, ff 10, ff 11] rfl ?_
    refine eA rfl (R.move (.t rfl)) ?_
    refine eA rfl (R.nilCheckP (.t rfl)) ?_
    refine eA rfl (R.fieldAddr fo_85_6 (.t rfl)) ?_
    refine eA rfl (R.load Tryz.underlying83 rfl (.t rfl) (cN M0 rfl)) ?_
    refine eA rfl (R.move (.t rfl)) ?_
    refine eA rfl (R.indexN Tryz.underlying83 sz_136 (.t rfl) (by assumption) (.t rfl) (fun hg => (midB))) ?_
    refine eA rfl (R.fieldE fo_136_5 (.t rfl) (by assumption)) ?_
    refine eA rfl (R.loadRd Tryz.underlying3 rfl (.t rfl) (wN M2) (fun hg => by exact Ek.getM rfl)) ?_
    refine eA rfl (R.addI (.t rfl) .c (fun hg => by (try dsimp only); omega)) ?_
    refine eA rfl (R.indexN Tryz.underlying83 sz_136 (.t rfl) (by assumption) (.t rfl) (fun hg => (midB))) ?_
    refine eA rfl (R.fieldE fo_136_5 (.t rfl) (by assumption)) ?_
    refine At.stFld (k := evK) 8 (ev.wSteps (ev.steps + 1)) [.int .i64 (ev.steps + 1)] rfl rfl sz_3 (.t rfl) (.t rfl) rfl rfl (Nat.le_of_ble_eq_true rfl) (.n U2) rfl ⟨.all, ?_⟩
    refine At.nil ?_
    refine At.tN ?_
    refine At.seq ?_
    refine At.plain [ff 0] rfl ?_
    refine eA rfl (R.move (.t rfl)) ?_
    refine At.nil ?_
    refine At.tN ?_
    refine At.cond (.t rfl) (fun c5 => ?_) (fun c5 => ?_)
    ·
     refine At.seq ?_
     refine At.plain [ff 0, ff 1, ff 2, ff 3] rfl ?_
     refine eA rfl (R.move (.t rfl)) ?_
     refine eA rfl (R.nilCheckE (.t rfl) (by assumption)) ?_
     refine eA rfl (R.fieldE fo_116_1 (.t rfl) (by assumption)) ?_
     refine At.stFld (k := thK) 1 (⟨nx, false, sc, some pu, pg, psc⟩ : Th) [.bool false] rfl rfl sz_4 (.t rfl) .c rfl rfl (Nat.le_of_ble_eq_true rfl) (.n U1) rfl ⟨.all, ?_⟩
     refine W ?_
     refine At.drawM ([maB mb Ov Pv dv ba Tv Kv Gv x, rowE thK 116 Tv (a ++ (⟨nx, false, sc, some pu, pg, psc⟩ : Th) :: b), rowE evK 136 Gv (ea ++ (ev.wSteps (ev.steps + 1)) :: eb), raB ba wv r2, raW wv n r2, puB pu pDv pwp pxp pmp pov px]) ([]) [tt 0, tt 1, tt 2, tt 4, tt 5, tt 6, tt 7] [tt 3, tt 8] [tt 9, tt 10, ff 11] (by (exact keepOf (by (apply List.Sublist.cons; apply List.Sublist.cons; apply List.Sublist.cons; apply List.sublist_append_of_sublist_right; apply List.Sublist.cons_cons; apply List.Sublist.cons_cons; apply List.Sublist.cons_cons; apply List.Sublist.cons_cons; apply List.Sublist.cons_cons; apply List.Sublist.cons_cons; exact List.nil_sublist _)))) (fun _ h => nomatch h) (by kernel_rfl) (by kernel_rfl) ?_
     refine sC rfl Cl.none (R.move (.t rfl)) ?_
     refine sC rfl Cl.none (R.nilCheckP (.t rfl)) ?_
     refine sC rfl Cl.none (R.fieldAddr fo_85_6 (.t rfl)) ?_
     refine sC rfl Cl.none (R.move (.t rfl)) ?_
     refine sC rfl Cl.none (R.move (.t rfl)) ?_
     refine sC rfl Cl.none (R.nilCheckP (.t rfl)) ?_
     refine sC rfl Cl.none (R.fieldAddr fo_85_3 (.t rfl)) ?_
     refine At.stage kz ?_
     refine sC rfl kz (R.load Tryz.underlying83 rfl (.t rfl) (cK M0 rfl)) ?_
     refine sC rfl kz (R.load Tryz.underlying3 rfl (.t rfl) (cK M0 rfl)) ?_
     refine At.stage Cl.none ?_
     refine sC rfl Cl.none (R.indexN Tryz.underlying83 sz_136 (.t rfl) (by assumption) (.t rfl) (fun hg => (midB))) ?_
     refine sC rfl Cl.none (R.fieldE fo_136_4 (.t rfl) (by assumption)) ?_
     refine At.stFld (k := evK) 7 ((ev.wSteps (ev.steps + 1)).wFin x.now) [.int .i64 x.now] rfl rfl sz_3 (.t rfl) (.t rfl) rfl rfl (Nat.le_of_ble_eq_true rfl) (.n U2) rfl ⟨Cl.none, ?_⟩
     refine W ?_
     exact At.finalX0 (N' := maB mb Ov Pv dv ba Tv Kv Gv x :: rowE thK 116 Tv (a ++ (⟨nx, false, sc, some pu, pg, psc⟩ : Th) :: b) :: rowE evK 136 Gv (ea ++ ((ev.wSteps (ev.steps + 1)).wFin x.now) :: eb) :: raB ba wv r2 :: raW wv n r2 :: puB pu pDv pwp pxp pmp pov px :: NN) hds how rfl (List.Sublist.refl _) (⟨r2, _, _, _, rfl, rfl, hr2, rfl, rfl, rfl, .inl ⟨pu, rfl, hP3⟩⟩) _ (.inr rfl)
    ·
     refine W ?_
     exact At.finalX0 (N' := maB mb Ov Pv dv ba Tv Kv Gv x :: rowE thK 116 Tv (a ++ (⟨nx, bz, sc, some pu, pg, psc⟩ : Th) :: b) :: rowE evK 136 Gv (ea ++ (ev.wSteps (ev.steps + 1)) :: eb) :: raB ba wv r2 :: raW wv n r2 :: puB pu pDv pwp pxp pmp pov px :: NN) hds how rfl (List.Sublist.refl _) (⟨r2, _, _, _, rfl, rfl, hr2, rfl, rfl, rfl, .inl ⟨pu, rfl, hP3⟩⟩) _ (.inr rfl)
end Go.Proofs.YtbolanigdkgbdaaGreat
namespace Go.Proofs.YtbolanigdkgbdaaGreat
open Go Go.RowKit
set_option maxRecDepth 10000
set_option linter.unusedVariables false
set_option linter.unnecessarySimpa false
set_option linter.unusedSectionVars false
set_option maxHeartbeats 1000000
theorem ma_stepsG {k n : Nat} {mb ba : Nat} {Ov Pv dv Tv Kv Gv : Value} {x : Ma} {gs : opsRows} {wv : Value} {l0 ps : List Int} {a b : List Th} {ea eb : List Evt} {ev : Evt} {nx sc : Int} {bz : Bool} {r : Rr} {N : Hp} {bg : Nat} {gsc : Option Nat} (hQ : GeM k bg N) (hr : r.okk n k) (hn : n ≤ 1000000) (hk : k ≤ 800000) (hst : 0 ≤ ev.steps ∧ ev.steps ≤ 1000000) : FnX Tryz.prog 75 [.pointer (some ⟨mb, 0, none⟩), .int .i64 (a.length : Int), .int .i64 (ea.length : Int)] (rdE zK dv l0 :: rdE zK Pv ps :: nest opK Ov gs) (maB mb Ov Pv dv ba Tv Kv Gv x :: rowE thK 116 Tv (a ++ (⟨nx, bz, sc, none, some bg, gsc⟩ : Th) :: b) :: rowE evK 136 Gv (ea ++ ev :: eb) :: raB ba wv r :: raW wv n r :: N) (fun v N => ∃ r2 bz2 ev2 N2, v = .tuple #[] ∧ N = maB mb Ov Pv dv ba Tv Kv Gv x :: rowE thK 116 Tv (a ++ (⟨nx, bz2, sc, none, some bg, gsc⟩ : Th) :: b) :: rowE evK 136 Gv (ea ++ ev2 :: eb) :: raB ba wv r2 :: raW wv n r2 :: N2 ∧ r2.okk n (k + 1) ∧ ev2.thread = ev.thread ∧ ev2.index = ev.index ∧ ev2.steps = ev.steps + 1 ∧ OpM (k + 1) dv l0 (⟨nx, bz2, sc, none, some bg, gsc⟩ : Th) N2) := by
 refine FnX.enter Tryz.func75 (by kernel_rfl) rfl (n := 163) rfl rfl (fun w df hds how => ?_)
 have hG : ∀ y ∈ gs, rdE opK y.1 y.2 ∈ rdE zK dv l0 :: rdE zK Pv ps :: nest opK Ov gs := fun y hy => .tail _ (.tail _ (.tail _ ((List.mem_map.2 ⟨y, hy, rfl⟩))))
 have hTp := midP (a := a) (b := b) (x := (⟨nx, bz, sc, none, some bg, gsc⟩ : Th))
 have hGp := midP (a := ea) (b := eb) (x := ev)
 refine At.isl (v := Tv) (List.mem_append_right _ M1) hTp (fun hTv => ?_)
 refine At.isn (v := Gv) (List.mem_append_right _ M2) hGp (fun hGv hGn => ?_)
 refine At.seq ?_
 refine At.plain [ff 0, ff 1, ff 2, ff 3, ff 4, ff 5, ff 6] rfl ?_
 refine eA rfl (R.move (.t rfl)) ?_
 refine eA rfl (R.nilCheckP (.t rfl)) ?_
 refine eA rfl (R.fieldAddr fo_85_2 (.t rfl)) ?_
 refine eA rfl (R.load Tryz.underlying82 rfl (.t rfl) (cN M0 rfl)) ?_
 refine eA rfl (R.move (.t rfl)) ?_
 refine eA rfl (R.indexRd Tryz.underlying82 sz_116 (.t rfl) (wN M1) (.t rfl) (fun hg => (midB))) ?_
 refine eA rfl (R.assign (.t rfl)) ?_
 refine At.nil ?_
 refine At.tN ?_
 refine At.seq ?_
 refine At.plain [ff 0] rfl ?_
 refine eA rfl (R.assign .c) ?_
 refine At.nil ?_
 refine At.tN ?_
 refine At.seq ?_
 refine At.block ?_
 refine At.seq ?_
 refine At.plain [ff 0, ff 1, ff 2, ff 3, ff 4, ff 5] rfl ?_
 refine eA rfl (R.move (.t rfl)) ?_
 refine eA rfl (R.nilCheckE (.t rfl) (by assumption)) ?_
 refine eA rfl (R.fieldE fo_116_3 (.t rfl) (by assumption)) ?_
 refine eA rfl (R.loadRd Tryz.underlying112 rfl (.t rfl) (wN M1) (fun hg => by exact Ek.getM rfl)) ?_
 refine eA rfl (R.neqNilP Tryz.underlying112 (.t rfl)) ?_
 refine eA rfl (R.assign (.t rfl)) ?_
 refine At.nil ?_
 refine At.tN ?_
 refine At.condF (.t rfl) ?_
 refine At.seq ?_
 refine At.plain [ff 0, ff 1, ff 2, ff 3, ff 4, ff 5] rfl ?_
 refine eA rfl (R.move (.t rfl)) ?_
 refine eA rfl (R.nilCheckE (.t rfl) (by assumption)) ?_
 refine eA rfl (R.fieldE fo_116_4 (.t rfl) (by assumption)) ?_
 refine eA rfl (R.loadRd Tryz.underlying113 rfl (.t rfl) (wN M1) (fun hg => by exact Ek.getM rfl)) ?_
 refine eA rfl (R.neqNilP Tryz.underlying113 (.t rfl)) ?_
 refine eA rfl (R.assign (.t rfl)) ?_
 refine At.nil ?_
 refine At.tN ?_
 refine At.condT (.t rfl) ?_
 refine At.seq ?_
 refine At.drawM ([maB mb Ov Pv dv ba Tv Kv Gv x, rowE thK 116 Tv (a ++ (⟨nx, bz, sc, none, some bg, gsc⟩ : Th) :: b), rowE evK 136 Gv (ea ++ ev :: eb), raB ba wv r, raW wv n r]) ([]) [tt 0, tt 1, tt 2, tt 4, tt 5, tt 6] [tt 3, tt 7] [ff 8, tt 9] (by (exact keepOf (by (apply List.Sublist.cons; apply List.Sublist.cons; apply List.Sublist.cons; apply List.sublist_append_of_sublist_right; apply List.Sublist.cons_cons; apply List.Sublist.cons_cons; apply List.Sublist.cons_cons; apply List.Sublist.cons_cons; apply List.Sublist.cons_cons; exact List.nil_sublist _)))) (fun _ h => nomatch h) (by kernel_rfl) (by kernel_rfl) ?_
 refine sC rfl Cl.none (R.move (.t rfl)) ?_
 refine sC rfl Cl.none (R.nilCheckE (.t rfl) (by assumption)) ?_
 refine sC rfl Cl.none (R.fieldE fo_116_4 (.t rfl) (by assumption)) ?_
 refine sC rfl Cl.none (R.move (.t rfl)) ?_
 refine sC rfl Cl.none (R.nilCheckP (.t rfl)) ?_
 refine sC rfl Cl.none (R.fieldAddr fo_85_1 (.t rfl)) ?_
 refine At.stage kz ?_
 refine sC rfl kz (R.loadRd Tryz.underlying113 rfl (.t rfl) (wK M1) (fun hg => by exact Ek.getM rfl)) ?_
 refine sC rfl kz (R.load Tryz.underlying30 rfl (.t rfl) (cK M0 rfl)) ?_
 refine At.stage Cl.none ?_
 refine cX rfl rfl rfl (.k rfl (.k rfl .nil)) rfl (.skip (.skip (.skip .all))) .nil (ge_Step (ba := ba) (wv := wv) hQ hr hn hk) Aprt.nil (fun v B hR => ⟨Cl.none, ?_⟩); obtain ⟨e, r2, N2, rfl, rfl, hr2, hP2⟩ := hR; refine At.perm List.perm_append_comm ?_; refine At.re (N' := maB mb Ov Pv dv ba Tv Kv Gv x :: rowE thK 116 Tv (a ++ (⟨nx, bz, sc, none, some bg, gsc⟩ : Th) :: b) :: rowE evK 136 Gv (ea ++ ev :: eb) :: raB ba wv r2 :: raW wv n r2 :: N2) rfl ?_
 refine sC rfl Cl.none (R.assign (.t rfl)) ?_
 refine At.nil ?_
 refine At.tN ?_
 refine At.drawM ([maB mb Ov Pv dv ba Tv Kv Gv x, rowE thK 116 Tv (a ++ (⟨nx, bz, sc, none, some bg, gsc⟩ : Th) :: b), rowE evK 136 Gv (ea ++ ev :: eb), raB ba wv r2, raW wv n r2]) ([]) [tt 0, tt 1, tt 2, tt 4, tt 5, tt 6, tt 7] [tt 3, tt 8, ff 9] [tt 10, tt 11, ff 12] (by (exact keepOf (by (apply List.Sublist.cons; apply List.Sublist.cons; apply List.Sublist.cons; apply List.sublist_append_of_sublist_right; apply List.Sublist.cons_cons; apply List.Sublist.cons_cons; apply List.Sublist.cons_cons; apply List.Sublist.cons_cons; apply List.Sublist.cons_cons; exact List.nil_sublist _)))) (fun _ h => nomatch h) (by kernel_rfl) (by kernel_rfl) ?_
 refine sC rfl Cl.none (R.move (.t rfl)) ?_
 refine sC rfl Cl.none (R.nilCheckP (.t rfl)) ?_
 refine sC rfl Cl.none (R.fieldAddr fo_85_6 (.t rfl)) ?_
 refine sC rfl Cl.none (R.move (.t rfl)) ?_
 refine sC rfl Cl.none (R.move (.t rfl)) ?_
 refine sC rfl Cl.none (R.nilCheckE (.t rfl) (by assumption)) ?_
 refine sC rfl Cl.none (R.fieldE fo_116_4 (.t rfl) (by assumption)) ?_
 refine At.stage kz ?_
 refine sC rfl kz (R.load Tryz.underlying83 rfl (.t rfl) (cK M0 rfl)) ?_
 refine sC rfl kz (R.loadRd Tryz.underlying113 rfl (.t rfl) (wK M1) (fun hg => by exact Ek.getM rfl)) ?_
 refine cX rfl rfl rfl (.k rfl .nil) rfl (.skip (.skip (.skip (.skip (.skip .all))))) .nil (ge_Answer hP2) Aprt.nil (fun v B hR => ⟨Cl.keptB (keepOf (List.Sublist.refl _)), ?_⟩); obtain ⟨an, pv, rfl, hBN⟩ := hR; rw [hBN]; refine At.perm List.perm_append_comm ?_; refine At.re (N' := maB mb Ov Pv dv ba Tv Kv Gv x :: rowE thK 116 Tv (a ++ (⟨nx, bz, sc, none, some bg, gsc⟩ : Th) :: b) :: rowE evK 136 Gv (ea ++ ev :: eb) :: raB ba wv r2 :: raW wv n r2 :: N2) rfl ?_
 refine At.stage Cl.none ?_
 refine sC rfl Cl.none (R.indexN Tryz.underlying83 sz_136 (.t rfl) (by assumption) (.t rfl) (fun hg => (midB))) ?_
 refine sC rfl Cl.none (R.fieldE fo_136_9 (.t rfl) (by assumption)) ?_
 refine At.stFld (k := evK) 12 (ev.wAn an pv) [.int .i64 an.code, .bool an.found, .int .i64 an.val, .int .i64 an.writer, .int .i64 an.version, pv.1] rfl rfl sz_134 (.t rfl) (.t rfl) rfl (by simp only [List.all_cons, List.all_nil, pv.2]; rfl) (Nat.le_of_ble_eq_true rfl) (.n U2) rfl ⟨Cl.none, ?_⟩
 refine At.nil ?_
 refine At.bN ?_
 refine At.tN ?_
 refine At.seq ?_
 refine At.plain [ff 0, ff 1, ff 2, ff 3, ff 4, ff 5, ff 6, ff 7, ff 8, ff 9, ff 10, ff 11] rfl ?_
 refine eA rfl (R.move (.t rfl)) ?_
 refine eA rfl (R.nilCheckP (.t rfl)) ?_
 refine eA rfl (R.fieldAddr fo_85_6 (.t rfl)) ?_
 refine eA rfl (R.load Tryz.underlying83 rfl (.t rfl) (cN M0 rfl)) ?_
 refine eA rfl (R.move (.t rfl)) ?_
 refine eA rfl (R.indexN Tryz.underlying83 sz_136 (.t rfl) (by assumption) (.t rfl) (fun hg => (midB))) ?_
 refine eA rfl (R.fieldE fo_136_5 (.t rfl) (by assumption)) ?_
 refine eA rfl (R.loadRd Tryz.underlying3 rfl (.t rfl) (wN M2) (fun hg => by exact Ek.getM rfl)) ?_
 refine eA rfl (R.addI (.t rfl) .c (fun hg => by (try dsimp only); omega)) ?_
 refine eA rfl (R.indexN Tryz.underlying83 sz_136 (.t rfl) (by assumption) (.t rfl) (fun hg => (midB))) ?_
 refine eA rfl (R.fieldE fo_136_5 (.t rfl) (by assumption)) ?_
 refine At.stFld (k := evK) 8 ((ev.wAn an pv).wSteps (ev.steps + 1)) [.int .i64 (ev.steps + 1)] rfl rfl sz_3 (.t rfl) (.t rfl) rfl rfl (Nat.le_of_ble_eq_true rfl) (.n U2) rfl ⟨.all, ?_⟩
 refine At.nil ?_
 refine At.tN ?_
 refine At.seq ?_
 refine At.plain [ff 0] rfl ?_
 refine eA rfl (R.move (.t rfl)) ?_
 refine At.nil ?_
 refine At.tN ?_
 refine At.cond (.t rfl) (fun c3 => ?_) (fun c3 => ?_)
 ·
  refine At.seq ?_
  refine At.plain [ff 0, ff 1, ff 2, ff 3] rfl ?_
  refine eA rfl (R.move (.t rfl)) ?_
  refine eA rfl (R.nilCheckE (.t rfl) (by assumption)) ?_
  refine eA rfl (R.fieldE fo_116_1 (.t rfl) (by assumption)) ?_
  refine At.stFld (k := thK) 1 (⟨nx, false, sc, none, some bg, gsc⟩ : Th) [.bool false] rfl rfl sz_4 (.t rfl) .c rfl rfl (Nat.le_of_ble_eq_true rfl) (.n U1) rfl ⟨.all, ?_⟩
  refine W ?_
  refine At.drawM ([maB mb Ov Pv dv ba Tv Kv Gv x, rowE thK 116 Tv (a ++ (⟨nx, false, sc, none, some bg, gsc⟩ : Th) :: b), rowE evK 136 Gv (ea ++ ((ev.wAn an pv).wSteps (ev.steps + 1)) :: eb), raB ba wv r2, raW wv n r2]) ([]) [tt 0, tt 1, tt 2, tt 4, tt 5, tt 6, tt 7] [tt 3, tt 8] [tt 9, tt 10, ff 11] (by (exact keepOf (by (apply List.Sublist.cons; apply List.Sublist.cons; apply List.Sublist.cons; apply List.sublist_append_of_sublist_right; apply List.Sublist.cons_cons; apply List.Sublist.cons_cons; apply List.Sublist.cons_cons; apply List.Sublist.cons_cons; apply List.Sublist.cons_cons; exact List.nil_sublist _)))) (fun _ h => nomatch h) (by kernel_rfl) (by kernel_rfl) ?_
  refine sC rfl Cl.none (R.move (.t rfl)) ?_
  refine sC rfl Cl.none (R.nilCheckP (.t rfl)) ?_
  refine sC rfl Cl.none (R.fieldAddr fo_85_6 (.t rfl)) ?_
  refine sC rfl Cl.none (R.move (.t rfl)) ?_
  refine sC rfl Cl.none (R.move (.t rfl)) ?_
  refine sC rfl Cl.none (R.nilCheckP (.t rfl)) ?_
  refine sC rfl Cl.none (R.fieldAddr fo_85_3 (.t rfl)) ?_
  refine At.stage kz ?_
  refine sC rfl kz (R.load Tryz.underlying83 rfl (.t rfl) (cK M0 rfl)) ?_
  refine sC rfl kz (R.load Tryz.underlying3 rfl (.t rfl) (cK M0 rfl)) ?_
  refine At.stage Cl.none ?_
  refine sC rfl Cl.none (R.indexN Tryz.underlying83 sz_136 (.t rfl) (by assumption) (.t rfl) (fun hg => (midB))) ?_
  refine sC rfl Cl.none (R.fieldE fo_136_4 (.t rfl) (by assumption)) ?_
  refine At.stFld (k := evK) 7 (((ev.wAn an pv).wSteps (ev.steps + 1)).wFin x.now) [.int .i64 x.now] rfl rfl sz_3 (.t rfl) (.t rfl) rfl rfl (Nat.le_of_ble_eq_true rfl) (.n U2) rfl ⟨Cl.none, ?_⟩
  refine W ?_
  exact At.finalX0 (N' := maB mb Ov Pv dv ba Tv Kv Gv x :: rowE thK 116 Tv (a ++ (⟨nx, false, sc, none, some bg, gsc⟩ : Th) :: b) :: rowE evK 136 Gv (ea ++ (((ev.wAn an pv).wSteps (ev.steps + 1)).wFin x.now) :: eb) :: raB ba wv r2 :: raW wv n r2 :: N2) hds how rfl (List.Sublist.refl _) (⟨r2, _, _, _, rfl, rfl, hr2, rfl, rfl, rfl, .inr (.inl ⟨rfl, bg, rfl, hP2⟩)⟩) _ (.inr rfl)
 ·
  refine W ?_
  exact At.finalX0 (N' := maB mb Ov Pv dv ba Tv Kv Gv x :: rowE thK 116 Tv (a ++ (⟨nx, bz, sc, none, some bg, gsc⟩ : Th) :: b) :: rowE evK 136 Gv (ea ++ ((ev.wAn an pv).wSteps (ev.steps + 1)) :: eb) :: raB ba wv r2 :: raW wv n r2 :: N2) hds how rfl (List.Sublist.refl _) (⟨r2, _, _, _, rfl, rfl, hr2, rfl, rfl, rfl, .inr (.inl ⟨rfl, bg, rfl, hP2⟩)⟩) _ (.inr rfl)
theorem ma_stepsS {k n : Nat} {mb ba : Nat} {Ov Pv dv Tv Kv Gv : Value} {x : Ma} {gs : opsRows} {wv : Value} {l0 ps : List Int} {a b : List Th} {ea eb : List Evt} {ev : Evt} {nx sc : Int} {bz : Bool} {r : Rr} {N : Hp} {bs : Nat} (hQ : ScM k bs N) (hr : r.okk n k) (hn : n ≤ 1000000) (hk : k ≤ 800000) (hst : 0 ≤ ev.steps ∧ ev.steps ≤ 1000000) : FnX Tryz.prog 75 [.pointer (some ⟨mb, 0, none⟩), .int .i64 (a.length : Int), .int .i64 (ea.length : Int)] (rdE zK dv l0 :: rdE zK Pv ps :: nest opK Ov gs) (maB mb Ov Pv dv ba Tv Kv Gv x :: rowE thK 116 Tv (a ++ (⟨nx, bz, sc, none, none, some bs⟩ : Th) :: b) :: rowE evK 136 Gv (ea ++ ev :: eb) :: raB ba wv r :: raW wv n r :: N) (fun v N => ∃ r2 bz2 ev2 N2, v = .tuple #[] ∧ N = maB mb Ov Pv dv ba Tv Kv Gv x :: rowE thK 116 Tv (a ++ (⟨nx, bz2, sc, none, none, some bs⟩ : Th) :: b) :: rowE evK 136 Gv (ea ++ ev2 :: eb) :: raB ba wv r2 :: raW wv n r2 :: N2 ∧ r2.okk n (k + 1) ∧ ev2.thread = ev.thread ∧ ev2.index = ev.index ∧ ev2.steps = ev.steps + 1 ∧ OpM (k + 1) dv l0 (⟨nx, bz2, sc, none, none, some bs⟩ : Th) N2) := by
 refine FnX.enter Tryz.func75 (by kernel_rfl) rfl (n := 163) rfl rfl (fun w df hds how => ?_)
 have hG : ∀ y ∈ gs, rdE opK y.1 y.2 ∈ rdE zK dv l0 :: rdE zK Pv ps :: nest opK Ov gs := fun y hy => .tail _ (.tail _ (.tail _ ((List.mem_map.2 ⟨y, hy, rfl⟩))))
 have hTp := midP (a := a) (b := b) (x := (⟨nx, bz, sc, none, none, some bs⟩ : Th))
 have hGp := midP (a := ea) (b := eb) (x := ev)
 refine At.isl (v := Tv) (List.mem_append_right _ M1) hTp (fun hTv => ?_)
 refine At.isn (v := Gv) (List.mem_append_right _ M2) hGp (fun hGv hGn => ?_)
 refine At.seq ?_
 refine At.plain [ff 0, ff 1, ff 2, ff 3, ff 4, ff 5, ff 6] rfl ?_
 refine eA rfl (R.move (.t rfl)) ?_
 refine eA rfl (R.nilCheckP (.t rfl)) ?_
 refine eA rfl (R.fieldAddr fo_85_2 (.t rfl)) ?_
 refine eA rfl (R.load Tryz.underlying82 rfl (.t rfl) (cN M0 rfl)) ?_
 refine eA rfl (R.move (.t rfl)) ?_
 refine eA rfl (R.indexRd Tryz.underlying82 sz_116 (.t rfl) (wN M1) (.t rfl) (fun hg => (midB))) ?_
 refine eA rfl (R.assign (.t rfl)) ?_
 refine At.nil ?_
 refine At.tN ?_
 refine At.seq ?_
 refine At.plain [ff 0] rfl ?_
 refine eA rfl (R.assign .c) ?_
 refine At.nil ?_
 refine At.tN ?_
 refine At.seq ?_
 refine At.block ?_
 refine At.seq ?_
 refine At.plain [ff 0, ff 1, ff 2, ff 3, ff 4, ff 5] rfl ?_
 refine eA rfl (R.move (.t rfl)) ?_
 refine eA rfl (R.nilCheckE (.t rfl) (by assumption)) ?_
 refine eA rfl (R.fieldE fo_116_3 (.t rfl) (by assumption)) ?_
 refine eA rfl (R.loadRd Tryz.underlying112 rfl (.t rfl) (wN M1) (fun hg => by exact Ek.getM rfl)) ?_
 refine eA rfl (R.neqNilP Tryz.underlying112 (.t rfl)) ?_
 refine eA rfl (R.assign (.t rfl)) ?_
 refine At.nil ?_
 refine At.tN ?_
 refine At.condF (.t rfl) ?_
 refine At.seq ?_
 refine At.plain [ff 0, ff 1, ff 2, ff 3, ff 4, ff 5] rfl ?_
 refine eA rfl (R.move (.t rfl)) ?_
 refine eA rfl (R.nilCheckE (.t rfl) (by assumption)) ?_
 refine eA rfl (R.fieldE fo_116_4 (.t rfl) (by assumption)) ?_
 refine eA rfl (R.loadRd Tryz.underlying113 rfl (.t rfl) (wN M1) (fun hg => by exact Ek.getM rfl)) ?_
 refine eA rfl (R.neqNilP Tryz.underlying113 (.t rfl)) ?_
 refine eA rfl (R.assign (.t rfl)) ?_
 refine At.nil ?_
 refine At.tN ?_
 refine At.condF (.t rfl) ?_
 refine At.seq ?_
 refine At.drawM ([maB mb Ov Pv dv ba Tv Kv Gv x, rowE thK 116 Tv (a ++ (⟨nx, bz, sc, none, none, some bs⟩ : Th) :: b), rowE evK 136 Gv (ea ++ ev :: eb), raB ba wv r, raW wv n r]) ([]) [tt 0, tt 1, tt 2, tt 4, tt 5, tt 6] [tt 3, tt 7] [ff 8, tt 9] (by (exact keepOf (by (apply List.Sublist.cons; apply List.Sublist.cons; apply List.Sublist.cons; apply List.sublist_append_of_sublist_right; apply List.Sublist.cons_cons; apply List.Sublist.cons_cons; apply List.Sublist.cons_cons; apply List.Sublist.cons_cons; apply List.Sublist.cons_cons; exact List.nil_sublist _)))) (fun _ h => nomatch h) (by kernel_rfl) (by kernel_rfl) ?_
 refine sC rfl Cl.none (R.move (.t rfl)) ?_
 refine sC rfl Cl.none (R.nilCheckE (.t rfl) (by assumption)) ?_
 refine sC rfl Cl.none (R.fieldE fo_116_5 (.t rfl) (by assumption)) ?_
 refine sC rfl Cl.none (R.move (.t rfl)) ?_
 refine sC rfl Cl.none (R.nilCheckP (.t rfl)) ?_
 refine sC rfl Cl.none (R.fieldAddr fo_85_1 (.t rfl)) ?_
 refine At.stage kz ?_
 refine sC rfl kz (R.loadRd Tryz.underlying114 rfl (.t rfl) (wK M1) (fun hg => by exact Ek.getM rfl)) ?_
 refine sC rfl kz (R.load Tryz.underlying30 rfl (.t rfl) (cK M0 rfl)) ?_
 refine At.stage Cl.none ?_
 refine cX rfl rfl rfl (.k rfl (.k rfl .nil)) rfl (.skip (.skip (.skip .all))) .nil (sc_Step (ba := ba) (wv := wv) hQ hr hn hk) Aprt.nil (fun v B hR => ⟨Cl.none, ?_⟩); obtain ⟨e, r2, N2, rfl, rfl, hr2, hP2⟩ := hR; refine At.perm List.perm_append_comm ?_; refine At.re (N' := maB mb Ov Pv dv ba Tv Kv Gv x :: rowE thK 116 Tv (a ++ (⟨nx, bz, sc, none, none, some bs⟩ : Th) :: b) :: rowE evK 136 Gv (ea ++ ev :: eb) :: raB ba wv r2 :: raW wv n r2 :: N2) rfl ?_
 refine sC rfl Cl.none (R.assign (.t rfl)) ?_
 refine At.nil ?_
 refine At.tN ?_
 refine At.drawM ([maB mb Ov Pv dv ba Tv Kv Gv x, rowE thK 116 Tv (a ++ (⟨nx, bz, sc, none, none, some bs⟩ : Th) :: b), rowE evK 136 Gv (ea ++ ev :: eb), raB ba wv r2, raW wv n r2]) ([]) [tt 0, tt 1, tt 2, tt 4, tt 5, tt 6, tt 7] [tt 3, tt 8, ff 9] [tt 10, tt 11, ff 12] (by (exact keepOf (by (apply List.Sublist.cons; apply List.Sublist.cons; apply List.Sublist.cons; apply List.sublist_append_of_sublist_right; apply List.Sublist.cons_cons; apply List.Sublist.cons_cons; apply List.Sublist.cons_cons; apply List.Sublist.cons_cons; apply List.Sublist.cons_cons; exact List.nil_sublist _)))) (fun _ h => nomatch h) (by kernel_rfl) (by kernel_rfl) ?_
 refine sC rfl Cl.none (R.move (.t rfl)) ?_
 refine sC rfl Cl.none (R.nilCheckP (.t rfl)) ?_
 refine sC rfl Cl.none (R.fieldAddr fo_85_6 (.t rfl)) ?_
 refine sC rfl Cl.none (R.move (.t rfl)) ?_
 refine sC rfl Cl.none (R.move (.t rfl)) ?_
 refine sC rfl Cl.none (R.nilCheckE (.t rfl) (by assumption)) ?_
 refine sC rfl Cl.none (R.fieldE fo_116_5 (.t rfl) (by assumption)) ?_
 refine At.stage kz ?_
 refine sC rfl kz (R.load Tryz.underlying83 rfl (.t rfl) (cK M0 rfl)) ?_
 refine sC rfl kz (R.loadRd Tryz.underlying114 rfl (.t rfl) (wK M1) (fun hg => by exact Ek.getM rfl)) ?_
 refine cX rfl rfl rfl (.k rfl .nil) rfl (.skip (.skip (.skip (.skip (.skip .all))))) .nil (sc_Answer hP2 (by omega)) Aprt.nil (fun v B hR => ⟨Cl.keptB (keepOf (List.Sublist.refl _)), ?_⟩); obtain ⟨an, pv, rfl, hBN⟩ := hR; rw [hBN]; refine At.perm List.perm_append_comm ?_; refine At.re (N' := maB mb Ov Pv dv ba Tv Kv Gv x :: rowE thK 116 Tv (a ++ (⟨nx, bz, sc, none, none, some bs⟩ : Th) :: b) :: rowE evK 136 Gv (ea ++ ev :: eb) :: raB ba wv r2 :: raW wv n r2 :: N2) rfl ?_
 refine At.stage Cl.none ?_
 refine sC rfl Cl.none (R.indexN Tryz.underlying83 sz_136 (.t rfl) (by assumption) (.t rfl) (fun hg => (midB))) ?_
 refine sC rfl Cl.none (R.fieldE fo_136_9 (.t rfl) (by assumption)) ?_
 refine At.stFld (k := evK) 12 (ev.wAn an pv) [.int .i64 an.code, .bool an.found, .int .i64 an.val, .int .i64 an.writer, .int .i64 an.version, pv.1] rfl rfl sz_134 (.t rfl) (.t rfl) rfl (by simp only [List.all_cons, List.all_nil, pv.2]; rfl) (Nat.le_of_ble_eq_true rfl) (.n U2) rfl ⟨Cl.none, ?_⟩
 refine At.nil ?_
 refine At.bN ?_
 refine At.tN ?_
 refine At.seq ?_
 refine At.plain [ff 0, ff 1, ff 2, ff 3, ff 4, ff 5, ff 6, ff 7, ff 8, ff 9, ff 10, ff 11] rfl ?_
 refine eA rfl (R.move (.t rfl)) ?_
 refine eA rfl (R.nilCheckP (.t rfl)) ?_
 refine eA rfl (R.fieldAddr fo_85_6 (.t rfl)) ?_
 refine eA rfl (R.load Tryz.underlying83 rfl (.t rfl) (cN M0 rfl)) ?_
 refine eA rfl (R.move (.t rfl)) ?_
 refine eA rfl (R.indexN Tryz.underlying83 sz_136 (.t rfl) (by assumption) (.t rfl) (fun hg => (midB))) ?_
 refine eA rfl (R.fieldE fo_136_5 (.t rfl) (by assumption)) ?_
 refine eA rfl (R.loadRd Tryz.underlying3 rfl (.t rfl) (wN M2) (fun hg => by exact Ek.getM rfl)) ?_
 refine eA rfl (R.addI (.t rfl) .c (fun hg => by (try dsimp only); omega)) ?_
 refine eA rfl (R.indexN Tryz.underlying83 sz_136 (.t rfl) (by assumption) (.t rfl) (fun hg => (midB))) ?_
 refine eA rfl (R.fieldE fo_136_5 (.t rfl) (by assumption)) ?_
 refine At.stFld (k := evK) 8 ((ev.wAn an pv).wSteps (ev.steps + 1)) [.int .i64 (ev.steps + 1)] rfl rfl sz_3 (.t rfl) (.t rfl) rfl rfl (Nat.le_of_ble_eq_true rfl) (.n U2) rfl ⟨.all, ?_⟩
 refine At.nil ?_
 refine At.tN ?_
 refine At.seq ?_
 refine At.plain [ff 0] rfl ?_
 refine eA rfl (R.move (.t rfl)) ?_
 refine At.nil ?_
 refine At.tN ?_
 refine At.cond (.t rfl) (fun c3 => ?_) (fun c3 => ?_)
 ·
  refine At.seq ?_
  refine At.plain [ff 0, ff 1, ff 2, ff 3] rfl ?_
  refine eA rfl (R.move (.t rfl)) ?_
  refine eA rfl (R.nilCheckE (.t rfl) (by assumption)) ?_
  refine eA rfl (R.fieldE fo_116_1 (.t rfl) (by assumption)) ?_
  refine At.stFld (k := thK) 1 (⟨nx, false, sc, none, none, some bs⟩ : Th) [.bool false] rfl rfl sz_4 (.t rfl) .c rfl rfl (Nat.le_of_ble_eq_true rfl) (.n U1) rfl ⟨.all, ?_⟩
  refine W ?_
  refine At.drawM ([maB mb Ov Pv dv ba Tv Kv Gv x, rowE thK 116 Tv (a ++ (⟨nx, false, sc, none, none, some bs⟩ : Th) :: b), rowE evK 136 Gv (ea ++ ((ev.wAn an pv).wSteps (ev.steps + 1)) :: eb), raB ba wv r2, raW wv n r2]) ([]) [tt 0, tt 1, tt 2, tt 4, tt 5, tt 6, tt 7] [tt 3, tt 8] [tt 9, tt 10, ff 11] (by (exact keepOf (by (apply List.Sublist.cons; apply List.Sublist.cons; apply List.Sublist.cons; apply List.sublist_append_of_sublist_right; apply List.Sublist.cons_cons; apply List.Sublist.cons_cons; apply List.Sublist.cons_cons; apply List.Sublist.cons_cons; apply List.Sublist.cons_cons; exact List.nil_sublist _)))) (fun _ h => nomatch h) (by kernel_rfl) (by kernel_rfl) ?_
  refine sC rfl Cl.none (R.move (.t rfl)) ?_
  refine sC rfl Cl.none (R.nilCheckP (.t rfl)) ?_
  refine sC rfl Cl.none (R.fieldAddr fo_85_6 (.t rfl)) ?_
  refine sC rfl Cl.none (R.move (.t rfl)) ?_
  refine sC rfl Cl.none (R.move (.t rfl)) ?_
  refine sC rfl Cl.none (R.nilCheckP (.t rfl)) ?_
  refine sC rfl Cl.none (R.fieldAddr fo_85_3 (.t rfl)) ?_
  refine At.stage kz ?_
  refine sC rfl kz (R.load Tryz.underlying83 rfl (.t rfl) (cK M0 rfl)) ?_
  refine sC rfl kz (R.load Tryz.underlying3 rfl (.t rfl) (cK M0 rfl)) ?_
  refine At.stage Cl.none ?_
  refine sC rfl Cl.none (R.indexN Tryz.underlying83 sz_136 (.t rfl) (by assumption) (.t rfl) (fun hg => (midB))) ?_
  refine sC rfl Cl.none (R.fieldE fo_136_4 (.t rfl) (by assumption)) ?_
  refine At.stFld (k := evK) 7 (((ev.wAn an pv).wSteps (ev.steps + 1)).wFin x.now) [.int .i64 x.now] rfl rfl sz_3 (.t rfl) (.t rfl) rfl rfl (Nat.le_of_ble_eq_true rfl) (.n U2) rfl ⟨Cl.none, ?_⟩
  refine W ?_
  exact At.finalX0 (N' := maB mb Ov Pv dv ba Tv Kv Gv x :: rowE thK 116 Tv (a ++ (⟨nx, false, sc, none, none, some bs⟩ : Th) :: b) :: rowE evK 136 Gv (ea ++ (((ev.wAn an pv).wSteps (ev.steps + 1)).wFin x.now) :: eb) :: raB ba wv r2 :: raW wv n r2 :: N2) hds how rfl (List.Sublist.refl _) (⟨r2, _, _, _, rfl, rfl, hr2, rfl, rfl, rfl, .inr (.inr ⟨rfl, rfl, bs, rfl, hP2⟩)⟩) _ (.inr rfl)
 ·
  refine W ?_
  exact At.finalX0 (N' := maB mb Ov Pv dv ba Tv Kv Gv x :: rowE thK 116 Tv (a ++ (⟨nx, bz, sc, none, none, some bs⟩ : Th) :: b) :: rowE evK 136 Gv (ea ++ ((ev.wAn an pv).wSteps (ev.steps + 1)) :: eb) :: raB ba wv r2 :: raW wv n r2 :: N2) hds how rfl (List.Sublist.refl _) (⟨r2, _, _, _, rfl, rfl, hr2, rfl, rfl, rfl, .inr (.inr ⟨rfl, rfl, bs, rfl, hP2⟩)⟩) _ (.inr rfl)
end Go.Proofs.YtbolanigdkgbdaaGreat
