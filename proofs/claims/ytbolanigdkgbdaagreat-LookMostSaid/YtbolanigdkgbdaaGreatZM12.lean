/- Part of the proof: lemmas for what the last file states; no condition. -/
import Derived.Test.YtbolanigdkgbdaaGreatZM11
set_option linter.unusedSectionVars false
namespace Go.Proofs.YtbolanigdkgbdaaGreat
open Go Go.RowKit
set_option maxRecDepth 10000
set_option linter.unusedVariables false
set_option linter.unnecessarySimpa false
set_option linter.unusedSectionVars false
set_option maxHeartbeats 1000000
theorem fo_136_4 : fieldOff? Tryz.prog 136 4 = some 7 := by kernel_rfl
theorem fo_136_5 : fieldOff? Tryz.prog 136 5 = some 8 := by kernel_rfl
theorem fo_136_6 : fieldOff? Tryz.prog 136 6 = some 9 := by kernel_rfl
theorem fo_136_9 : fieldOff? Tryz.prog 136 9 = some 12 := by kernel_rfl
theorem fo_85_1 : fieldOff? Tryz.prog 85 1 = some 7 := by kernel_rfl
theorem ma_stepsP {k n : Nat} {mb ba : Nat} {Ov Pv dv Tv Kv Gv : Value} {x : Ma} {gs : opsRows} {wv : Value} {l0 ps : List Int} {a b : List Th} {ea eb : List Evt} {ev : Evt} {nx sc : Int} {bz : Bool} {r : Rr} {N : Hp} {pu : Nat} {pg psc : Option Nat} (hP : PuM k pu dv l0 N) (hr : r.okk n k) (hn : n ≤ 1000000) (hk : k ≤ 800000) (hst : 0 ≤ ev.steps ∧ ev.steps ≤ 1000000) : FnX Tryz.prog 75 [.pointer (some ⟨mb, 0, none⟩), .int .i64 (a.length : Int), .int .i64 (ea.length : Int)] (rdE zK dv l0 :: rdE zK Pv ps :: nest opK Ov gs) (maB mb Ov Pv dv ba Tv Kv Gv x :: rowE thK 116 Tv (a ++ (⟨nx, bz, sc, some pu, pg, psc⟩ : Th) :: b) :: rowE evK 136 Gv (ea ++ ev :: eb) :: raB ba wv r :: raW wv n r :: N) (fun v N => ∃ r2 bz2 ev2 N2, v = .tuple #[] ∧ N = maB mb Ov Pv dv ba Tv Kv Gv x :: rowE thK 116 Tv (a ++ (⟨nx, bz2, sc, some pu, pg, psc⟩ : Th) :: b) :: rowE evK 136 Gv (ea ++ ev2 :: eb) :: raB ba wv r2 :: raW wv n r2 :: N2 ∧ r2.okk n (k + 1) ∧ ev2.thread = ev.thread ∧ ev2.index = ev.index ∧ ev2.steps = ev.steps + 1 ∧ OpM (k + 1) dv l0 (⟨nx, bz2, sc, some pu, pg, psc⟩ : Th) N2) := by
  refine FnX.enter Tryz.func75 (by kernel_rfl) rfl (n := 163) rfl rfl (fun w df hds how => ?_)
  have hG : ∀ y ∈ gs, rdE opK y.1 y.2 ∈ rdE zK dv l0 :: rdE zK Pv ps :: nest opK Ov gs := fun y hy => .tail _ (.tail _ (.tail _ ((List.mem_map.2 ⟨y, hy, rfl⟩))))
  have hTp := midP (a := a) (b := b) (x := (⟨nx, bz, sc, some pu, pg, psc⟩ : Th))
  have hGp := midP (a := ea) (b := eb) (x := ev)
  refine At.isl (v := Tv) (by (exact List.mem_append_right _ M1)) hTp (fun hTv => ?_)
  refine At.isn (v := Gv) (by (exact List.mem_append_right _ M2)) hGp (fun hGv hGn => ?_)
  refine At.seq ?_
  refine At.plain [(false, 0), (false, 1), (false, 2), (false, 3), (false, 4), (false, 5), (false, 6)] rfl ?_
  refine At.e rfl rfl rfl rfl .all (R.move (.t rfl)) ?_
  refine At.e rfl rfl rfl rfl .all (R.nilCheckP (.t rfl)) ?_
  refine At.e rfl rfl rfl rfl .all (R.fieldAddr fo_85_2 (.t rfl)) ?_
  refine At.e rfl rfl rfl rfl .all (R.load Tryz.underlying82 rfl (.t rfl) (by exact cN M0 rfl)) ?_
  refine At.e rfl rfl rfl rfl .all (R.move (.t rfl)) ?_
  refine At.e rfl rfl rfl rfl .all (R.indexRd Tryz.underlying82 sz_116 (.t rfl) (by exact wN M1) (.t rfl) (fun hg => (by exact midB))) ?_
  refine At.e rfl rfl rfl rfl .all (R.assign (.t rfl)) ?_
  refine At.nil ?_
  refine At.tN ?_
  refine At.seq ?_
  refine At.plain [(false, 0)] rfl ?_
  refine At.e rfl rfl rfl rfl .all (R.assign .c) ?_
  refine At.nil ?_
  refine At.tN ?_
  refine At.seq ?_
  refine At.block ?_
  refine At.seq ?_
  refine At.plain [(false, 0), (false, 1), (false, 2), (false, 3), (false, 4), (false, 5)] rfl ?_
  refine At.e rfl rfl rfl rfl .all (R.move (.t rfl)) ?_
  refine At.e rfl rfl rfl rfl .all (R.nilCheckE (.t rfl) (by assumption)) ?_
  refine At.e rfl rfl rfl rfl .all (R.fieldE fo_116_3 (.t rfl) (by assumption)) ?_
  refine At.e rfl rfl rfl rfl .all (R.loadRd Tryz.underlying112 rfl (.t rfl) (by exact wN M1) (fun hg => by exact Ek.getM rfl)) ?_
  refine At.e rfl rfl rfl rfl .all (R.neqNilP Tryz.underlying112 (.t rfl)) ?_
  refine At.e rfl rfl rfl rfl .all (R.assign (.t rfl)) ?_
  refine At.nil ?_
  refine At.tN ?_
  refine At.condT (.t rfl) ?_
  refine At.seq ?_
  refine At.drawM ([maB mb Ov Pv dv ba Tv Kv Gv x, rowE thK 116 Tv (a ++ (⟨nx, bz, sc, some pu, pg, psc⟩ : Th) :: b), rowE evK 136 Gv (ea ++ ev :: eb), raB ba wv r, raW wv n r]) ([]) [(true, 0), (true, 1), (true, 2), (true, 4), (true, 5), (true, 6)] [(true, 3), (true, 7)] [(false, 8), (true, 9)] (by (exact keepOf (by (apply List.Sublist.cons; apply List.Sublist.cons; apply List.Sublist.cons; apply List.sublist_append_of_sublist_right; apply List.Sublist.cons_cons; apply List.Sublist.cons_cons; apply List.Sublist.cons_cons; apply List.Sublist.cons_cons; apply List.Sublist.cons_cons; exact List.nil_sublist _)))) (fun _ h => nomatch h) (by kernel_rfl) (by kernel_rfl) ?_
  refine At.s rfl rfl rfl rfl Cl.none (R.move (.t rfl)) ?_
  refine At.s rfl rfl rfl rfl Cl.none (R.nilCheckE (.t rfl) (by assumption)) ?_
  refine At.s rfl rfl rfl rfl Cl.none (R.fieldE fo_116_3 (.t rfl) (by assumption)) ?_
  refine At.s rfl rfl rfl rfl Cl.none (R.move (.t rfl)) ?_
  refine At.s rfl rfl rfl rfl Cl.none (R.nilCheckP (.t rfl)) ?_
  refine At.s rfl rfl rfl rfl Cl.none (R.fieldAddr fo_85_1 (.t rfl)) ?_
  refine At.stage (Cl.kept (by (exact keepOf (by (apply List.Sublist.cons; apply List.Sublist.cons; apply List.Sublist.cons; apply List.sublist_append_of_sublist_right; apply List.Sublist.cons_cons; apply List.Sublist.cons_cons; apply List.Sublist.cons_cons; apply List.Sublist.cons_cons; apply List.Sublist.cons_cons; exact List.nil_sublist _))))) ?_
  refine At.s rfl rfl rfl rfl (Cl.kept (by (exact keepOf (by (apply List.Sublist.cons; apply List.Sublist.cons; apply List.Sublist.cons; apply List.sublist_append_of_sublist_right; apply List.Sublist.cons_cons; apply List.Sublist.cons_cons; apply List.Sublist.cons_cons; apply List.Sublist.cons_cons; apply List.Sublist.cons_cons; exact List.nil_sublist _))))) (R.loadRd Tryz.underlying112 rfl (.t rfl) (by exact wK M1) (fun hg => by exact Ek.getM rfl)) ?_
  refine At.s rfl rfl rfl rfl (Cl.kept (by (exact keepOf (by (apply List.Sublist.cons; apply List.Sublist.cons; apply List.Sublist.cons; apply List.sublist_append_of_sublist_right; apply List.Sublist.cons_cons; apply List.Sublist.cons_cons; apply List.Sublist.cons_cons; apply List.Sublist.cons_cons; apply List.Sublist.cons_cons; exact List.nil_sublist _))))) (R.load Tryz.underlying30 rfl (.t rfl) (by exact cK M0 rfl)) ?_
  refine At.stage Cl.none ?_
  refine At.callX (fst := []) (cap := []) rfl rfl rfl Ev.f (.cons (.t rfl) (.cons (.t rfl) .nil)) rfl (.skip (.skip (.skip .all))) (.cons (rS M0) .nil) (pu_Step (ba := ba) (wv := wv) hP hr hn hk) (Aprt.sub1 (mem1 (.head _)) (.skip (.skip (.skip .all)))) (fun v B hR => ⟨Cl.none, ?_⟩); obtain ⟨e, r2, N2, rfl, rfl, hr2, hP2⟩ := hR; have hP3 := hP2; obtain ⟨px, pDv, pl, pwp, pxp, pmp, pov, NN, hpx, hpD, rfl, hpc⟩ := hP2; refine At.perm List.perm_append_comm ?_; refine At.re (N' := maB mb Ov Pv dv ba Tv Kv Gv x :: rowE thK 116 Tv (a ++ (⟨nx, bz, sc, some pu, pg, psc⟩ : Th) :: b) :: rowE evK 136 Gv (ea ++ ev :: eb) :: raB ba wv r2 :: raW wv n r2 :: puB pu pDv pwp pxp pmp pov px :: NN) rfl ?_
  refine At.s rfl rfl rfl rfl Cl.none (R.assign (.t rfl)) ?_
  refine At.nil ?_
  refine At.tN ?_
  refine At.seq ?_
  refine At.seq ?_
  refine At.plain [(false, 0), (false, 1), (false, 2), (false, 3), (false, 4), (false, 5), (false, 6)] rfl ?_
  refine At.e rfl rfl rfl rfl .all (R.move (.t rfl)) ?_
  refine At.e rfl rfl rfl rfl .all (R.nilCheckE (.t rfl) (by assumption)) ?_
  refine At.e rfl rfl rfl rfl .all (R.fieldE fo_116_3 (.t rfl) (by assumption)) ?_
  refine At.e rfl rfl rfl rfl .all (R.loadRd Tryz.underlying112 rfl (.t rfl) (by exact wN M1) (fun hg => by exact Ek.getM rfl)) ?_
  refine At.e rfl rfl rfl rfl .all (R.nilCheckP (.t rfl)) ?_
  refine At.e rfl rfl rfl rfl .all (R.fieldAddr fo_145_10 (.t rfl)) ?_
  refine At.e rfl rfl rfl rfl .all (R.load Tryz.underlying4 rfl (.t rfl) (by exact cN M5 rfl)) ?_
  refine At.nil ?_
  refine At.tN ?_
  refine At.cond (.t rfl) (fun c2 => ?_) (fun c2 => ?_)
  · skip
    refine At.drawM ([maB mb Ov Pv dv ba Tv Kv Gv x, rowE thK 116 Tv (a ++ (⟨nx, bz, sc, some pu, pg, psc⟩ : Th) :: b), rowE evK 136 Gv (ea ++ ev :: eb), raB ba wv r2, raW wv n r2, puB pu pDv pwp pxp pmp pov px]) ([]) [(true, 0), (true, 1), (true, 2), (true, 4), (true, 5), (true, 6), (true, 7)] [(true, 3), (true, 8)] [(true, 9), (true, 10), (false, 11)] (by (exact keepOf (by (apply List.Sublist.cons; apply List.Sublist.cons; apply List.Sublist.cons; apply List.sublist_append_of_sublist_right; apply List.Sublist.cons_cons; apply List.Sublist.cons_cons; apply List.Sublist.cons_cons; apply List.Sublist.cons_cons; apply List.Sublist.cons_cons; apply List.Sublist.cons_cons; exact List.nil_sublist _)))) (fun _ h => nomatch h) (by kernel_rfl) (by kernel_rfl) ?_
    refine At.s rfl rfl rfl rfl Cl.none (R.move (.t rfl)) ?_
    refine At.s rfl rfl rfl rfl Cl.none (R.nilCheckP (.t rfl)) ?_
    refine At.s rfl rfl rfl rfl Cl.none (R.fieldAddr fo_85_6 (.t rfl)) ?_
    refine At.s rfl rfl rfl rfl Cl.none (R.move (.t rfl)) ?_
    refine At.s rfl rfl rfl rfl Cl.none (R.move (.t rfl)) ?_
    refine At.s rfl rfl rfl rfl Cl.none (R.nilCheckP (.t rfl)) ?_
    refine At.s rfl rfl rfl rfl Cl.none (R.fieldAddr fo_85_3 (.t rfl)) ?_
    refine At.stage (Cl.kept (by (exact keepOf (by (apply List.Sublist.cons; apply List.Sublist.cons; apply List.Sublist.cons; apply List.sublist_append_of_sublist_right; apply List.Sublist.cons_cons; apply List.Sublist.cons_cons; apply List.Sublist.cons_cons; apply List.Sublist.cons_cons; apply List.Sublist.cons_cons; apply List.Sublist.cons_cons; exact List.nil_sublist _))))) ?_
    refine At.s rfl rfl rfl rfl (Cl.kept (by (exact keepOf (by (apply List.Sublist.cons; apply List.Sublist.cons; apply List.Sublist.cons; apply List.sublist_append_of_sublist_right; apply List.Sublist.cons_cons; apply List.Sublist.cons_cons; apply List.Sublist.cons_cons; apply List.Sublist.cons_cons; apply List.Sublist.cons_cons; apply List.Sublist.cons_cons; exact List.nil_sublist _))))) (R.load Tryz.underlying83 rfl (.t rfl) (by exact cK M0 rfl)) ?_
    refine At.s rfl rfl rfl rfl (Cl.kept (by (exact keepOf (by (apply List.Sublist.cons; apply List.Sublist.cons; apply List.Sublist.cons; apply List.sublist_append_of_sublist_right; apply List.Sublist.cons_cons; apply List.Sublist.cons_cons; apply List.Sublist.cons_cons; apply List.Sublist.cons_cons; apply List.Sublist.cons_cons; apply List.Sublist.cons_cons; exact List.nil_sublist _))))) (R.load Tryz.underlying3 rfl (.t rfl) (by exact cK M0 rfl)) ?_
    refine At.stage Cl.none ?_
    refine At.s rfl rfl rfl rfl Cl.none (R.indexN Tryz.underlying83 sz_136 (.t rfl) (by assumption) (.t rfl) (fun hg => (by exact midB))) ?_
    refine At.s rfl rfl rfl rfl Cl.none (R.fieldE fo_136_6 (.t rfl) (by assumption)) ?_
    refine At.stFld (k := evK) 9 (ev.wAlloc x.now) [.int .i64 x.now] rfl rfl sz_3 (.t rfl) (.t rfl) rfl rfl (Nat.le_of_ble_eq_true rfl) (.n U2) rfl ⟨Cl.none, ?_⟩
    refine At.nil ?_
    refine At.tN ?_
    refine At.seq ?_
    refine At.plain [(false, 0), (false, 1), (false, 2), (false, 3), (false, 4), (false, 5), (false, 6), (false, 7), (false, 8), (false, 9), (false, 10)] rfl ?_
    refine At.e rfl rfl rfl rfl .all (R.move (.t rfl)) ?_
    refine At.e rfl rfl rfl rfl .all (R.move (.t rfl)) ?_
    refine At.e rfl rfl rfl rfl .all (R.move (by exact .t rfl)) ?_
    refine At.e rfl rfl rfl rfl .all (R.nilCheckE (by exact .s rfl) (by assumption)) ?_
    refine At.e rfl rfl rfl rfl .all (R.fieldE fo_116_3 (by exact .s rfl) (by assumption)) ?_
    refine At.e rfl rfl rfl rfl .all (R.loadRd Tryz.underlying112 rfl (by exact .s rfl) (by exact wN M1) (fun hg => by exact Ek.getM rfl)) ?_
    refine At.e rfl rfl rfl rfl .all (R.nilCheckP (by exact .s rfl)) ?_
    refine At.e rfl rfl rfl rfl .all (R.fieldAddr fo_145_9 (by exact .s rfl)) ?_
    refine At.e rfl rfl rfl rfl .all (R.load Tryz.underlying3 rfl (by exact .s rfl) (by exact cN M5 rfl)) ?_
    refine At.e rfl rfl rfl rfl .all (R.neq (by exact .s rfl) .c) ?_
    refine At.e rfl rfl rfl rfl .all (R.pickAnd (.t rfl) rfl (by (intro hg h; rw [h]; rfl))) ?_
    refine At.nil ?_
    refine At.tN ?_
    refine At.cond (.t rfl) (fun c3 => ?_) (fun c3 => ?_)
    · skip
      refine At.drawM ([maB mb Ov Pv dv ba Tv Kv Gv x, rowE thK 116 Tv (a ++ (⟨nx, bz, sc, some pu, pg, psc⟩ : Th) :: b), rowE evK 136 Gv (ea ++ (ev.wAlloc x.now) :: eb), raB ba wv r2, raW wv n r2, puB pu pDv pwp pxp pmp pov px]) ([]) [(true, 0), (true, 1), (true, 2), (true, 4), (true, 5), (true, 6), (true, 7)] [(true, 3), (true, 8), (true, 9), (true, 10), (true, 11), (true, 12)] [(true, 13), (true, 14), (false, 15)] (by (exact keepOf (by (apply List.Sublist.cons; apply List.Sublist.cons; apply List.Sublist.cons; apply List.sublist_append_of_sublist_right; apply List.Sublist.cons_cons; apply List.Sublist.cons_cons; apply List.Sublist.cons_cons; apply List.Sublist.cons_cons; apply List.Sublist.cons_cons; apply List.Sublist.cons_cons; exact List.nil_sublist _)))) (fun _ h => nomatch h) (by kernel_rfl) (by kernel_rfl) ?_
      refine At.s rfl rfl rfl rfl Cl.none (R.move (.t rfl)) ?_
      refine At.s rfl rfl rfl rfl Cl.none (R.nilCheckP (.t rfl)) ?_
      refine At.s rfl rfl rfl rfl Cl.none (R.fieldAddr fo_85_6 (.t rfl)) ?_
      refine At.s rfl rfl rfl rfl Cl.none (R.move (.t rfl)) ?_
      refine At.s rfl rfl rfl rfl Cl.none (R.move (.t rfl)) ?_
      refine At.s rfl rfl rfl rfl Cl.none (R.nilCheckE (.t rfl) (by assumption)) ?_
      refine At.s rfl rfl rfl rfl Cl.none (R.fieldE fo_116_3 (.t rfl) (by assumption)) ?_
      refine At.stage (Cl.kept (by (exact keepOf (by (apply List.Sublist.cons; apply List.Sublist.cons; apply List.Sublist.cons; apply List.sublist_append_of_sublist_right; apply List.Sublist.cons_cons; apply List.Sublist.cons_cons; apply List.Sublist.cons_cons; apply List.Sublist.cons_cons; apply List.Sublist.cons_cons; apply List.Sublist.cons_cons; exact List.nil_sublist _))))) ?_
      refine At.s rfl rfl rfl rfl (Cl.kept (by (exact keepOf (by (apply List.Sublist.cons; apply List.Sublist.cons; apply List.Sublist.cons; apply List.sublist_append_of_sublist_right; apply List.Sublist.cons_cons; apply List.Sublist.cons_cons; apply List.Sublist.cons_cons; apply List.Sublist.cons_cons; apply List.Sublist.cons_cons; apply List.Sublist.cons_cons; exact List.nil_sublist _))))) (R.load Tryz.underlying83 rfl (.t rfl) (by exact cK M0 rfl)) ?_
      refine At.s rfl rfl rfl rfl (Cl.kept (by (exact keepOf (by (apply List.Sublist.cons; apply List.Sublist.cons; apply List.Sublist.cons; apply List.sublist_append_of_sublist_right; apply List.Sublist.cons_cons; apply List.Sublist.cons_cons; apply List.Sublist.cons_cons; apply List.Sublist.cons_cons; apply List.Sublist.cons_cons; apply List.Sublist.cons_cons; exact List.nil_sublist _))))) (R.loadRd Tryz.underlying112 rfl (.t rfl) (by exact wK M1) (fun hg => by exact Ek.getM rfl)) ?_
      refine At.s rfl rfl rfl rfl (Cl.kept (by (exact keepOf (by (apply List.Sublist.cons; apply List.Sublist.cons; apply List.Sublist.cons; apply List.sublist_append_of_sublist_right; apply List.Sublist.cons_cons; apply List.Sublist.cons_cons; apply List.Sublist.cons_cons; apply List.Sublist.cons_cons; apply List.Sublist.cons_cons; apply List.Sublist.cons_cons; exact List.nil_sublist _))))) (R.nilCheckP (.t rfl)) ?_
      refine At.s rfl rfl rfl rfl (Cl.kept (by (exact keepOf (by (apply List.Sublist.cons; apply List.Sublist.cons; apply List.Sublist.cons; apply List.sublist_append_of_sublist_right; apply List.Sublist.cons_cons; apply List.Sublist.cons_cons; apply List.Sublist.cons_cons; apply List.Sublist.cons_cons; apply List.Sublist.cons_cons; apply List.Sublist.cons_cons; exact List.nil_sublist _))))) (R.fieldAddr fo_145_9 (.t rfl)) ?_
      refine At.s rfl rfl rfl rfl (Cl.kept (by (exact keepOf (by (apply List.Sublist.cons; apply List.Sublist.cons; apply List.Sublist.cons; apply List.sublist_append_of_sublist_right; apply List.Sublist.cons_cons; apply List.Sublist.cons_cons; apply List.Sublist.cons_cons; apply List.Sublist.cons_cons; apply List.Sublist.cons_cons; apply List.Sublist.cons_cons; exact List.nil_sublist _))))) (R.load Tryz.underlying3 rfl (.t rfl) (by exact cK M5 rfl)) ?_
      refine At.s rfl rfl rfl rfl (Cl.kept (by (exact keepOf (by (apply List.Sublist.cons; apply List.Sublist.cons; apply List.Sublist.cons; apply List.sublist_append_of_sublist_right; apply List.Sublist.cons_cons; apply List.Sublist.cons_cons; apply List.Sublist.cons_cons; apply List.Sublist.cons_cons; apply List.Sublist.cons_cons; apply List.Sublist.cons_cons; exact List.nil_sublist _))))) (R.build bt_134 (.cons (.t rfl) .nil) (.cons rfl .nil) rfl) ?_
      refine At.stage Cl.none ?_
      refine At.s rfl rfl rfl rfl Cl.none (R.indexN Tryz.underlying83 sz_136 (.t rfl) (by assumption) (.t rfl) (fun hg => (by exact midB))) ?_
      refine At.s rfl rfl rfl rfl Cl.none (R.fieldE fo_136_9 (.t rfl) (by assumption)) ?_
      refine At.stFld (k := evK) 12 ((ev.wAlloc x.now).wAn ⟨px.e, false, 0, 0, 0⟩ ⟨.slice none 0 0, rfl⟩) [.int .i64 px.e, .bool false, .int .i64 0, .int .i64 0, .int .i64 0, .slice none 0 0] rfl rfl sz_134 (.t rfl) (.t rfl) rfl rfl (Nat.le_of_ble_eq_true rfl) (.n U2) rfl ⟨Cl.none, ?_⟩
      refine At.nil ?_
      refine At.bN ?_
      refine At.tN ?_
      refine At.seq ?_
      refine At.plain [(false, 0), (false, 1), (false, 2), (false, 3), (false, 4), (false, 5), (false, 6), (false, 7), (false, 8), (false, 9), (false, 10), (false, 11)] rfl ?_
      refine At.e rfl rfl rfl rfl .all (R.move (.t rfl)) ?_
      refine At.e rfl rfl rfl rfl .all (R.nilCheckP (.t rfl)) ?_
      refine At.e rfl rfl rfl rfl .all (R.fieldAddr fo_85_6 (.t rfl)) ?_
      refine At.e rfl rfl rfl rfl .all (R.load Tryz.underlying83 rfl (.t rfl) (by exact cN M0 rfl)) ?_
      refine At.e rfl rfl rfl rfl .all (R.move (.t rfl)) ?_
      refine At.e rfl rfl rfl rfl .all (R.indexN Tryz.underlying83 sz_136 (.t rfl) (by assumption) (.t rfl) (fun hg => (by exact midB))) ?_
      refine At.e rfl rfl rfl rfl .all (R.fieldE fo_136_5 (.t rfl) (by assumption)) ?_
      refine At.e rfl rfl rfl rfl .all (R.loadRd Tryz.underlying3 rfl (.t rfl) (by exact wN M2) (fun hg => by exact Ek.getM rfl)) ?_
      refine At.e rfl rfl rfl rfl .all (R.addI (.t rfl) .c (fun hg => by (try dsimp only); omega)) ?_
      refine At.e rfl rfl rfl rfl .all (R.indexN Tryz.underlying83 sz_136 (.t rfl) (by assumption) (.t rfl) (fun hg => (by exact midB))) ?_
      refine At.e rfl rfl rfl rfl .all (R.fieldE fo_136_5 (.t rfl) (by assumption)) ?_
      refine At.stFld (k := evK) 8 (((ev.wAlloc x.now).wAn ⟨px.e, false, 0, 0, 0⟩ ⟨.slice none 0 0, rfl⟩).wSteps (ev.steps + 1)) [.int .i64 (ev.steps + 1)] rfl rfl sz_3 (.t rfl) (.t rfl) rfl rfl (Nat.le_of_ble_eq_true rfl) (.n U2) rfl ⟨.all, ?_⟩
      refine At.nil ?_
      refine At.tN ?_
      refine At.seq ?_
      refine At.plain [(false, 0)] rfl ?_
      refine At.e rfl rfl rfl rfl .all (R.move (.t rfl)) ?_
      refine At.nil ?_
      refine At.tN ?_
      refine At.cond (.t rfl) (fun c4 => ?_) (fun c4 => ?_)
      · skip
        refine At.seq ?_
        refine At.plain [(false, 0), (false, 1), (false, 2), (false, 3)] rfl ?_
        refine At.e rfl rfl rfl rfl .all (R.move (.t rfl)) ?_
        refine At.e rfl rfl rfl rfl .all (R.nilCheckE (.t rfl) (by assumption)) ?_
        refine At.e rfl rfl rfl rfl .all (R.fieldE fo_116_1 (.t rfl) (by assumption)) ?_
        refine At.stFld (k := thK) 1 (⟨nx, false, sc, some pu, pg, psc⟩ : Th) [.bool false] rfl rfl sz_4 (.t rfl) .c rfl rfl (Nat.le_of_ble_eq_true rfl) (.n U1) rfl ⟨.all, ?_⟩
        refine At.nil ?_
        refine At.tN ?_
        refine At.drawM ([maB mb Ov Pv dv ba Tv Kv Gv x, rowE thK 116 Tv (a ++ (⟨nx, false, sc, some pu, pg, psc⟩ : Th) :: b), rowE evK 136 Gv (ea ++ (((ev.wAlloc x.now).wAn ⟨px.e, false, 0, 0, 0⟩ ⟨.slice none 0 0, rfl⟩).wSteps (ev.steps + 1)) :: eb), raB ba wv r2, raW wv n r2, puB pu pDv pwp pxp pmp pov px]) ([]) [(true, 0), (true, 1), (true, 2), (true, 4), (true, 5), (true, 6), (true, 7)] [(true, 3), (true, 8)] [(true, 9), (true, 10), (false, 11)] (by (exact keepOf (by (apply List.Sublist.cons; apply List.Sublist.cons; apply List.Sublist.cons; apply List.sublist_append_of_sublist_right; apply List.Sublist.cons_cons; apply List.Sublist.cons_cons; apply List.Sublist.cons_cons; apply List.Sublist.cons_cons; apply List.Sublist.cons_cons; apply List.Sublist.cons_cons; exact List.nil_sublist _)))) (fun _ h => nomatch h) (by kernel_rfl) (by kernel_rfl) ?_
        refine At.s rfl rfl rfl rfl Cl.none (R.move (.t rfl)) ?_
        refine At.s rfl rfl rfl rfl Cl.none (R.nilCheckP (.t rfl)) ?_
        refine At.s rfl rfl rfl rfl Cl.none (R.fieldAddr fo_85_6 (.t rfl)) ?_
        refine At.s rfl rfl rfl rfl Cl.none (R.move (.t rfl)) ?_
        refine At.s rfl rfl rfl rfl Cl.none (R.move (.t rfl)) ?_
        refine At.s rfl rfl rfl rfl Cl.none (R.nilCheckP (.t rfl)) ?_
        refine At.s rfl rfl rfl rfl Cl.none (R.fieldAddr fo_85_3 (.t rfl)) ?_
        refine At.stage (Cl.kept (by (exact keepOf (by (apply List.Sublist.cons; apply List.Sublist.cons; apply List.Sublist.cons; apply List.sublist_append_of_sublist_right; apply List.Sublist.cons_cons; apply List.Sublist.cons_cons; apply List.Sublist.cons_cons; apply List.Sublist.cons_cons; apply List.Sublist.cons_cons; apply List.Sublist.cons_cons; exact List.nil_sublist _))))) ?_
        refine At.s rfl rfl rfl rfl (Cl.kept (by (exact keepOf (by (apply List.Sublist.cons; apply List.Sublist.cons; apply List.Sublist.cons; apply List.sublist_append_of_sublist_right; apply List.Sublist.cons_cons; apply List.Sublist.cons_cons; apply List.Sublist.cons_cons; apply List.Sublist.cons_cons; apply List.Sublist.cons_cons; apply List.Sublist.cons_cons; exact List.nil_sublist _))))) (R.load Tryz.underlying83 rfl (.t rfl) (by exact cK M0 rfl)) ?_
        refine At.s rfl rfl rfl rfl (Cl.kept (by (exact keepOf (by (apply List.Sublist.cons; apply List.Sublist.cons; apply List.Sublist.cons; apply List.sublist_append_of_sublist_right; apply List.Sublist.cons_cons; apply List.Sublist.cons_cons; apply List.Sublist.cons_cons; apply List.Sublist.cons_cons; apply List.Sublist.cons_cons; apply List.Sublist.cons_cons; exact List.nil_sublist _))))) (R.load Tryz.underlying3 rfl (.t rfl) (by exact cK M0 rfl)) ?_
        refine At.stage Cl.none ?_
        refine At.s rfl rfl rfl rfl Cl.none (R.indexN Tryz.underlying83 sz_136 (.t rfl) (by assumption) (.t rfl) (fun hg => (by exact midB))) ?_
        refine At.s rfl rfl rfl rfl Cl.none (R.fieldE fo_136_4 (.t rfl) (by assumption)) ?_
        refine At.stFld (k := evK) 7 ((((ev.wAlloc x.now).wAn ⟨px.e, false, 0, 0, 0⟩ ⟨.slice none 0 0, rfl⟩).wSteps (ev.steps + 1)).wFin x.now) [.int .i64 x.now] rfl rfl sz_3 (.t rfl) (.t rfl) rfl rfl (Nat.le_of_ble_eq_true rfl) (.n U2) rfl ⟨Cl.none, ?_⟩
        refine At.nil ?_
        exact At.finalX0 (N' := maB mb Ov Pv dv ba Tv Kv Gv x :: rowE thK 116 Tv (a ++ (⟨nx, false, sc, some pu, pg, psc⟩ : Th) :: b) :: rowE evK 136 Gv (ea ++ ((((ev.wAlloc x.now).wAn ⟨px.e, false, 0, 0, 0⟩ ⟨.slice none 0 0, rfl⟩).wSteps (ev.steps + 1)).wFin x.now) :: eb) :: raB ba wv r2 :: raW wv n r2 :: puB pu pDv pwp pxp pmp pov px :: NN) hds how rfl (by (exact List.Sublist.refl _)) (⟨r2, _, _, _, rfl, rfl, hr2, rfl, rfl, rfl, .inl ⟨pu, rfl, hP3⟩⟩) _ (.inr rfl)
      · skip
        refine At.skip ?_
        exact At.finalX0 (N' := maB mb Ov Pv dv ba Tv Kv Gv x :: rowE thK 116 Tv (a ++ (⟨nx, bz, sc, some pu, pg, psc⟩ : Th) :: b) :: rowE evK 136 Gv (ea ++ (((ev.wAlloc x.now).wAn ⟨px.e, false, 0, 0, 0⟩ ⟨.slice none 0 0, rfl⟩).wSteps (ev.steps + 1)) :: eb) :: raB ba wv r2 :: raW wv n r2 :: puB pu pDv pwp pxp pmp pov px :: NN) hds how rfl (by (exact List.Sublist.refl _)) (⟨r2, _, _, _, rfl, rfl, hr2, rfl, rfl, rfl, .inl ⟨pu, rfl, hP3⟩⟩) _ (.inr rfl)
    · skip
      refine At.seq ?_
      refine At.plain [(false, 0)] rfl ?_
      refine At.e rfl rfl rfl rfl .all (R.move (.t rfl)) ?_
      refine At.nil ?_
      refine At.tN ?_
      refine At.cond (.t rfl) (fun c4 => ?_) (fun c4 => ?_)
      · skip
        refine At.drawM ([maB mb Ov Pv dv ba Tv Kv Gv x, rowE thK 116 Tv (a ++ (⟨nx, bz, sc, some pu, pg, psc⟩ : Th) :: b), rowE evK 136 Gv (ea ++ (ev.wAlloc x.now) :: eb), raB ba wv r2, raW wv n r2, puB pu pDv pwp pxp pmp pov px]) ([]) [(true, 0), (true, 1), (true, 2), (true, 4), (true, 5), (true, 6), (true, 7)] [(true, 3), (true, 8), (true, 9), (true, 10), (true, 11), (true, 12)] [(true, 13), (true, 14), (false, 15)] (by (exact keepOf (by (apply List.Sublist.cons; apply List.Sublist.cons; apply List.Sublist.cons; apply List.sublist_append_of_sublist_right; apply List.Sublist.cons_cons; apply List.Sublist.cons_cons; apply List.Sublist.cons_cons; apply List.Sublist.cons_cons; apply List.Sublist.cons_cons; apply List.Sublist.cons_cons; exact List.nil_sublist _)))) (fun _ h => nomatch h) (by kernel_rfl) (by kernel_rfl) ?_
        refine At.s rfl rfl rfl rfl Cl.none (R.move (.t rfl)) ?_
        refine At.s rfl rfl rfl rfl Cl.none (R.nilCheckP (.t rfl)) ?_
        refine At.s rfl rfl rfl rfl Cl.none (R.fieldAddr fo_85_6 (.t rfl)) ?_
        refine At.s rfl rfl rfl rfl Cl.none (R.move (.t rfl)) ?_
        refine At.s rfl rfl rfl rfl Cl.none (R.move (.t rfl)) ?_
        refine At.s rfl rfl rfl rfl Cl.none (R.nilCheckE (.t rfl) (by assumption)) ?_
        refine At.s rfl rfl rfl rfl Cl.none (R.fieldE fo_116_3 (.t rfl) (by assumption)) ?_
        refine At.stage (Cl.kept (by (exact keepOf (by (apply List.Sublist.cons; apply List.Sublist.cons; apply List.Sublist.cons; apply List.sublist_append_of_sublist_right; apply List.Sublist.cons_cons; apply List.Sublist.cons_cons; apply List.Sublist.cons_cons; apply List.Sublist.cons_cons; apply List.Sublist.cons_cons; apply List.Sublist.cons_cons; exact List.nil_sublist _))))) ?_
        refine At.s rfl rfl rfl rfl (Cl.kept (by (exact keepOf (by (apply List.Sublist.cons; apply List.Sublist.cons; apply List.Sublist.cons; apply List.sublist_append_of_sublist_right; apply List.Sublist.cons_cons; apply List.Sublist.cons_cons; apply List.Sublist.cons_cons; apply List.Sublist.cons_cons; apply List.Sublist.cons_cons; apply List.Sublist.cons_cons; exact List.nil_sublist _))))) (R.load Tryz.underlying83 rfl (.t rfl) (by exact cK M0 rfl)) ?_
        refine At.s rfl rfl rfl rfl (Cl.kept (by (exact keepOf (by (apply List.Sublist.cons; apply List.Sublist.cons; apply List.Sublist.cons; apply List.sublist_append_of_sublist_right; apply List.Sublist.cons_cons; apply List.Sublist.cons_cons; apply List.Sublist.cons_cons; apply List.Sublist.cons_cons; apply List.Sublist.cons_cons; apply List.Sublist.cons_cons; exact List.nil_sublist _))))) (R.loadRd Tryz.underlying112 rfl (.t rfl) (by exact wK M1) (fun hg => by exact Ek.getM rfl)) ?_
        refine At.s rfl rfl rfl rfl (Cl.kept (by (exact keepOf (by (apply List.Sublist.cons; apply List.Sublist.cons; apply List.Sublist.cons; apply List.sublist_append_of_sublist_right; apply List.Sublist.cons_cons; apply List.Sublist.cons_cons; apply List.Sublist.cons_cons; apply List.Sublist.cons_cons; apply List.Sublist.cons_cons; apply List.Sublist.cons_cons; exact List.nil_sublist _))))) (R.nilCheckP (.t rfl)) ?_
        refine At.s rfl rfl rfl rfl (Cl.kept (by (exact keepOf (by (apply List.Sublist.cons; apply List.Sublist.cons; apply List.Sublist.cons; apply List.sublist_append_of_sublist_right; apply List.Sublist.cons_cons; apply List.Sublist.cons_cons; apply List.Sublist.cons_cons; apply List.Sublist.cons_cons; apply List.Sublist.cons_cons; apply List.Sublist.cons_cons; exact List.nil_sublist _))))) (R.fieldAddr fo_145_8 (.t rfl)) ?_
        refine At.s rfl rfl rfl rfl (Cl.kept (by (exact keepOf (by (apply List.Sublist.cons; apply List.Sublist.cons; apply List.Sublist.cons; apply List.sublist_append_of_sublist_right; apply List.Sublist.cons_cons; apply List.Sublist.cons_cons; apply List.Sublist.cons_cons; apply List.Sublist.cons_cons; apply List.Sublist.cons_cons; apply List.Sublist.cons_cons; exact List.nil_sublist _))))) (R.load Tryz.underlying3 rfl (.t rfl) (by exact cK M5 rfl)) ?_
        refine At.s rfl rfl rfl rfl (Cl.kept (by (exact keepOf (by (apply List.Sublist.cons; apply List.Sublist.cons; apply List.Sublist.cons; apply List.sublist_append_of_sublist_right; apply List.Sublist.cons_cons; apply List.Sublist.cons_cons; apply List.Sublist.cons_cons; apply List.Sublist.cons_cons; apply List.Sublist.cons_cons; apply List.Sublist.cons_cons; exact List.nil_sublist _))))) (R.build bt_134 (.cons .c (.cons (.t rfl) .nil)) (.cons rfl (.cons rfl .nil)) rfl) ?_
        refine At.stage Cl.none ?_
        refine At.s rfl rfl rfl rfl Cl.none (R.indexN Tryz.underlying83 sz_136 (.t rfl) (by assumption) (.t rfl) (fun hg => (by exact midB))) ?_
        refine At.s rfl rfl rfl rfl Cl.none (R.fieldE fo_136_9 (.t rfl) (by assumption)) ?_
        refine At.stFld (k := evK) 12 ((ev.wAlloc x.now).wAn ⟨0, false, 0, -1, px.version⟩ ⟨.slice none 0 0, rfl⟩) [.int .i64 0, .bool false, .int .i64 0, .int .i64 (-1), .int .i64 px.version, .slice none 0 0] rfl rfl sz_134 (.t rfl) (.t rfl) rfl rfl (Nat.le_of_ble_eq_true rfl) (.n U2) rfl ⟨Cl.none, ?_⟩
        refine At.nil ?_
        refine At.bN ?_
        refine At.tN ?_
        refine At.seq ?_
        refine At.plain [(false, 0), (false, 1), (false, 2), (false, 3), (false, 4), (false, 5), (false, 6), (false, 7), (false, 8), (false, 9), (false, 10), (false, 11)] rfl ?_
        refine At.e rfl rfl rfl rfl .all (R.move (.t rfl)) ?_
        refine At.e rfl rfl rfl rfl .all (R.nilCheckP (.t rfl)) ?_
        refine At.e rfl rfl rfl rfl .all (R.fieldAddr fo_85_6 (.t rfl)) ?_
        refine At.e rfl rfl rfl rfl .all (R.load Tryz.underlying83 rfl (.t rfl) (by exact cN M0 rfl)) ?_
        refine At.e rfl rfl rfl rfl .all (R.move (.t rfl)) ?_
        refine At.e rfl rfl rfl rfl .all (R.indexN Tryz.underlying83 sz_136 (.t rfl) (by assumption) (.t rfl) (fun hg => (by exact midB))) ?_
        refine At.e rfl rfl rfl rfl .all (R.fieldE fo_136_5 (.t rfl) (by assumption)) ?_
        refine At.e rfl rfl rfl rfl .all (R.loadRd Tryz.underlying3 rfl (.t rfl) (by exact wN M2) (fun hg => by exact Ek.getM rfl)) ?_
        refine At.e rfl rfl rfl rfl .all (R.addI (.t rfl) .c (fun hg => by (try dsimp only); omega)) ?_
        refine At.e rfl rfl rfl rfl .all (R.indexN Tryz.underlying83 sz_136 (.t rfl) (by assumption) (.t rfl) (fun hg => (by exact midB))) ?_
        refine At.e rfl rfl rfl rfl .all (R.fieldE fo_136_5 (.t rfl) (by assumption)) ?_
        refine At.stFld (k := evK) 8 (((ev.wAlloc x.now).wAn ⟨0, false, 0, -1, px.version⟩ ⟨.slice none 0 0, rfl⟩).wSteps (ev.steps + 1)) [.int .i64 (ev.steps + 1)] rfl rfl sz_3 (.t rfl) (.t rfl) rfl rfl (Nat.le_of_ble_eq_true rfl) (.n U2) rfl ⟨.all, ?_⟩
        refine At.nil ?_
        refine At.tN ?_
        refine At.seq ?_
        refine At.plain [(false, 0)] rfl ?_
        refine At.e rfl rfl rfl rfl .all (R.move (.t rfl)) ?_
        refine At.nil ?_
        refine At.tN ?_
        refine At.cond (.t rfl) (fun c5 => ?_) (fun c5 => ?_)
        · skip
          refine At.seq ?_
          refine At.plain [(false, 0), (false, 1), (false, 2), (false, 3)] rfl ?_
          refine At.e rfl rfl rfl rfl .all (R.move (.t rfl)) ?_
          refine At.e rfl rfl rfl rfl .all (R.nilCheckE (.t rfl) (by assumption)) ?_
          refine At.e rfl rfl rfl rfl .all (R.fieldE fo_116_1 (.t rfl) (by assumption)) ?_
          refine At.stFld (k := thK) 1 (⟨nx, false, sc, some pu, pg, psc⟩ : Th) [.bool false] rfl rfl sz_4 (.t rfl) .c rfl rfl (Nat.le_of_ble_eq_true rfl) (.n U1) rfl ⟨.all, ?_⟩
          refine At.nil ?_
          refine At.tN ?_
          refine At.drawM ([maB mb Ov Pv dv ba Tv Kv Gv x, rowE thK 116 Tv (a ++ (⟨nx, false, sc, some pu, pg, psc⟩ : Th) :: b), rowE evK 136 Gv (ea ++ (((ev.wAlloc x.now).wAn ⟨0, false, 0, -1, px.version⟩ ⟨.slice none 0 0, rfl⟩).wSteps (ev.steps + 1)) :: eb), raB ba wv r2, raW wv n r2, puB pu pDv pwp pxp pmp pov px]) ([]) [(true, 0), (true, 1), (true, 2), (true, 4), (true, 5), (true, 6), (true, 7)] [(true, 3), (true, 8)] [(true, 9), (true, 10), (false, 11)] (by (exact keepOf (by (apply List.Sublist.cons; apply List.Sublist.cons; apply List.Sublist.cons; apply List.sublist_append_of_sublist_right; apply List.Sublist.cons_cons; apply List.Sublist.cons_cons; apply List.Sublist.cons_cons; apply List.Sublist.cons_cons; apply List.Sublist.cons_cons; apply List.Sublist.cons_cons; exact List.nil_sublist _)))) (fun _ h => nomatch h) (by kernel_rfl) (by kernel_rfl) ?_
          refine At.s rfl rfl rfl rfl Cl.none (R.move (.t rfl)) ?_
          refine At.s rfl rfl rfl rfl Cl.none (R.nilCheckP (.t rfl)) ?_
          refine At.s rfl rfl rfl rfl Cl.none (R.fieldAddr fo_85_6 (.t rfl)) ?_
          refine At.s rfl rfl rfl rfl Cl.none (R.move (.t rfl)) ?_
          refine At.s rfl rfl rfl rfl Cl.none (R.move (.t rfl)) ?_
          refine At.s rfl rfl rfl rfl Cl.none (R.nilCheckP (.t rfl)) ?_
          refine At.s rfl rfl rfl rfl Cl.none (R.fieldAddr fo_85_3 (.t rfl)) ?_
          refine At.stage (Cl.kept (by (exact keepOf (by (apply List.Sublist.cons; apply List.Sublist.cons; apply List.Sublist.cons; apply List.sublist_append_of_sublist_right; apply List.Sublist.cons_cons; apply List.Sublist.cons_cons; apply List.Sublist.cons_cons; apply List.Sublist.cons_cons; apply List.Sublist.cons_cons; apply List.Sublist.cons_cons; exact List.nil_sublist _))))) ?_
          refine At.s rfl rfl rfl rfl (Cl.kept (by (exact keepOf (by (apply List.Sublist.cons; apply List.Sublist.cons; apply List.Sublist.cons; apply List.sublist_append_of_sublist_right; apply List.Sublist.cons_cons; apply List.Sublist.cons_cons; apply List.Sublist.cons_cons; apply List.Sublist.cons_cons; apply List.Sublist.cons_cons; apply List.Sublist.cons_cons; exact List.nil_sublist _))))) (R.load Tryz.underlying83 rfl (.t rfl) (by exact cK M0 rfl)) ?_
          refine At.s rfl rfl rfl rfl (Cl.kept (by (exact keepOf (by (apply List.Sublist.cons; apply List.Sublist.cons; apply List.Sublist.cons; apply List.sublist_append_of_sublist_right; apply List.Sublist.cons_cons; apply List.Sublist.cons_cons; apply List.Sublist.cons_cons; apply List.Sublist.cons_cons; apply List.Sublist.cons_cons; apply List.Sublist.cons_cons; exact List.nil_sublist _))))) (R.load Tryz.underlying3 rfl (.t rfl) (by exact cK M0 rfl)) ?_
          refine At.stage Cl.none ?_
          refine At.s rfl rfl rfl rfl Cl.none (R.indexN Tryz.underlying83 sz_136 (.t rfl) (by assumption) (.t rfl) (fun hg => (by exact midB))) ?_
          refine At.s rfl rfl rfl rfl Cl.none (R.fieldE fo_136_4 (.t rfl) (by assumption)) ?_
          refine At.stFld (k := evK) 7 ((((ev.wAlloc x.now).wAn ⟨0, false, 0, -1, px.version⟩ ⟨.slice none 0 0, rfl⟩).wSteps (ev.steps + 1)).wFin x.now) [.int .i64 x.now] rfl rfl sz_3 (.t rfl) (.t rfl) rfl rfl (Nat.le_of_ble_eq_true rfl) (.n U2) rfl ⟨Cl.none, ?_⟩
          refine At.nil ?_
          exact At.finalX0 (N' := maB mb Ov Pv dv ba Tv Kv Gv x :: rowE thK 116 Tv (a ++ (⟨nx, false, sc, some pu, pg, psc⟩ : Th) :: b) :: rowE evK 136 Gv (ea ++ ((((ev.wAlloc x.now).wAn ⟨0, false, 0, -1, px.version⟩ ⟨.slice none 0 0, rfl⟩).wSteps (ev.steps + 1)).wFin x.now) :: eb) :: raB ba wv r2 :: raW wv n r2 :: puB pu pDv pwp pxp pmp pov px :: NN) hds how rfl (by (exact List.Sublist.refl _)) (⟨r2, _, _, _, rfl, rfl, hr2, rfl, rfl, rfl, .inl ⟨pu, rfl, hP3⟩⟩) _ (.inr rfl)
        · skip
          refine At.skip ?_
          exact At.finalX0 (N' := maB mb Ov Pv dv ba Tv Kv Gv x :: rowE thK 116 Tv (a ++ (⟨nx, bz, sc, some pu, pg, psc⟩ : Th) :: b) :: rowE evK 136 Gv (ea ++ (((ev.wAlloc x.now).wAn ⟨0, false, 0, -1, px.version⟩ ⟨.slice none 0 0, rfl⟩).wSteps (ev.steps + 1)) :: eb) :: raB ba wv r2 :: raW wv n r2 :: puB pu pDv pwp pxp pmp pov px :: NN) hds how rfl (by (exact List.Sublist.refl _)) (⟨r2, _, _, _, rfl, rfl, hr2, rfl, rfl, rfl, .inl ⟨pu, rfl, hP3⟩⟩) _ (.inr rfl)
      · skip
        refine At.skip ?_
        refine At.bN ?_
        refine At.tN ?_
        refine At.seq ?_
        refine At.plain [(false, 0), (false, 1), (false, 2), (false, 3), (false, 4), (false, 5), (false, 6), (false, 7), (false, 8), (false, 9), (false, 10), (false, 11)] rfl ?_
        refine At.e rfl rfl rfl rfl .all (R.move (.t rfl)) ?_
        refine At.e rfl rfl rfl rfl .all (R.nilCheckP (.t rfl)) ?_
        refine At.e rfl rfl rfl rfl .all (R.fieldAddr fo_85_6 (.t rfl)) ?_
        refine At.e rfl rfl rfl rfl .all (R.load Tryz.underlying83 rfl (.t rfl) (by exact cN M0 rfl)) ?_
        refine At.e rfl rfl rfl rfl .all (R.move (.t rfl)) ?_
        refine At.e rfl rfl rfl rfl .all (R.indexN Tryz.underlying83 sz_136 (.t rfl) (by assumption) (.t rfl) (fun hg => (by exact midB))) ?_
        refine At.e rfl rfl rfl rfl .all (R.fieldE fo_136_5 (.t rfl) (by assumption)) ?_
        refine At.e rfl rfl rfl rfl .all (R.loadRd Tryz.underlying3 rfl (.t rfl) (by exact wN M2) (fun hg => by exact Ek.getM rfl)) ?_
        refine At.e rfl rfl rfl rfl .all (R.addI (.t rfl) .c (fun hg => by (try dsimp only); omega)) ?_
        refine At.e rfl rfl rfl rfl .all (R.indexN Tryz.underlying83 sz_136 (.t rfl) (by assumption) (.t rfl) (fun hg => (by exact midB))) ?_
        refine At.e rfl rfl rfl rfl .all (R.fieldE fo_136_5 (.t rfl) (by assumption)) ?_
        refine At.stFld (k := evK) 8 ((ev.wAlloc x.now).wSteps (ev.steps + 1)) [.int .i64 (ev.steps + 1)] rfl rfl sz_3 (.t rfl) (.t rfl) rfl rfl (Nat.le_of_ble_eq_true rfl) (.n U2) rfl ⟨.all, ?_⟩
        refine At.nil ?_
        refine At.tN ?_
        refine At.seq ?_
        refine At.plain [(false, 0)] rfl ?_
        refine At.e rfl rfl rfl rfl .all (R.move (.t rfl)) ?_
        refine At.nil ?_
        refine At.tN ?_
        refine At.cond (.t rfl) (fun c5 => ?_) (fun c5 => ?_)
        · skip
          refine At.seq ?_
          refine At.plain [(false, 0), (false, 1), (false, 2), (false, 3)] rfl ?_
          refine At.e rfl rfl rfl rfl .all (R.move (.t rfl)) ?_
          refine At.e rfl rfl rfl rfl .all (R.nilCheckE (.t rfl) (by assumption)) ?_
          refine At.e rfl rfl rfl rfl .all (R.fieldE fo_116_1 (.t rfl) (by assumption)) ?_
          refine At.stFld (k := thK) 1 (⟨nx, false, sc, some pu, pg, psc⟩ : Th) [.bool false] rfl rfl sz_4 (.t rfl) .c rfl rfl (Nat.le_of_ble_eq_true rfl) (.n U1) rfl ⟨.all, ?_⟩
          refine At.nil ?_
          refine At.tN ?_
          refine At.drawM ([maB mb Ov Pv dv ba Tv Kv Gv x, rowE thK 116 Tv (a ++ (⟨nx, false, sc, some pu, pg, psc⟩ : Th) :: b), rowE evK 136 Gv (ea ++ ((ev.wAlloc x.now).wSteps (ev.steps + 1)) :: eb), raB ba wv r2, raW wv n r2, puB pu pDv pwp pxp pmp pov px]) ([]) [(true, 0), (true, 1), (true, 2), (true, 4), (true, 5), (true, 6), (true, 7)] [(true, 3), (true, 8)] [(true, 9), (true, 10), (false, 11)] (by (exact keepOf (by (apply List.Sublist.cons; apply List.Sublist.cons; apply List.Sublist.cons; apply List.sublist_append_of_sublist_right; apply List.Sublist.cons_cons; apply List.Sublist.cons_cons; apply List.Sublist.cons_cons; apply List.Sublist.cons_cons; apply List.Sublist.cons_cons; apply List.Sublist.cons_cons; exact List.nil_sublist _)))) (fun _ h => nomatch h) (by kernel_rfl) (by kernel_rfl) ?_
          refine At.s rfl rfl rfl rfl Cl.none (R.move (.t rfl)) ?_
          refine At.s rfl rfl rfl rfl Cl.none (R.nilCheckP (.t rfl)) ?_
          refine At.s rfl rfl rfl rfl Cl.none (R.fieldAddr fo_85_6 (.t rfl)) ?_
          refine At.s rfl rfl rfl rfl Cl.none (R.move (.t rfl)) ?_
          refine At.s rfl rfl rfl rfl Cl.none (R.move (.t rfl)) ?_
          refine At.s rfl rfl rfl rfl Cl.none (R.nilCheckP (.t rfl)) ?_
          refine At.s rfl rfl rfl rfl Cl.none (R.fieldAddr fo_85_3 (.t rfl)) ?_
          refine At.stage (Cl.kept (by (exact keepOf (by (apply List.Sublist.cons; apply List.Sublist.cons; apply List.Sublist.cons; apply List.sublist_append_of_sublist_right; apply List.Sublist.cons_cons; apply List.Sublist.cons_cons; apply List.Sublist.cons_cons; apply List.Sublist.cons_cons; apply List.Sublist.cons_cons; apply List.Sublist.cons_cons; exact List.nil_sublist _))))) ?_
          refine At.s rfl rfl rfl rfl (Cl.kept (by (exact keepOf (by (apply List.Sublist.cons; apply List.Sublist.cons; apply List.Sublist.cons; apply List.sublist_append_of_sublist_right; apply List.Sublist.cons_cons; apply List.Sublist.cons_cons; apply List.Sublist.cons_cons; apply List.Sublist.cons_cons; apply List.Sublist.cons_cons; apply List.Sublist.cons_cons; exact List.nil_sublist _))))) (R.load Tryz.underlying83 rfl (.t rfl) (by exact cK M0 rfl)) ?_
          refine At.s rfl rfl rfl rfl (Cl.kept (by (exact keepOf (by (apply List.Sublist.cons; apply List.Sublist.cons; apply List.Sublist.cons; apply List.sublist_append_of_sublist_right; apply List.Sublist.cons_cons; apply List.Sublist.cons_cons; apply List.Sublist.cons_cons; apply List.Sublist.cons_cons; apply List.Sublist.cons_cons; apply List.Sublist.cons_cons; exact List.nil_sublist _))))) (R.load Tryz.underlying3 rfl (.t rfl) (by exact cK M0 rfl)) ?_
          refine At.stage Cl.none ?_
          refine At.s rfl rfl rfl rfl Cl.none (R.indexN Tryz.underlying83 sz_136 (.t rfl) (by assumption) (.t rfl) (fun hg => (by exact midB))) ?_
          refine At.s rfl rfl rfl rfl Cl.none (R.fieldE fo_136_4 (.t rfl) (by assumption)) ?_
          refine At.stFld (k := evK) 7 (((ev.wAlloc x.now).wSteps (ev.steps + 1)).wFin x.now) [.int .i64 x.now] rfl rfl sz_3 (.t rfl) (.t rfl) rfl rfl (Nat.le_of_ble_eq_true rfl) (.n U2) rfl ⟨Cl.none, ?_⟩
          refine At.nil ?_
          exact At.finalX0 (N' := maB mb Ov Pv dv ba Tv Kv Gv x :: rowE thK 116 Tv (a ++ (⟨nx, false, sc, some pu, pg, psc⟩ : Th) :: b) :: rowE evK 136 Gv (ea ++ (((ev.wAlloc x.now).wSteps (ev.steps + 1)).wFin x.now) :: eb) :: raB ba wv r2 :: raW wv n r2 :: puB pu pDv pwp pxp pmp pov px :: NN) hds how rfl (by (exact List.Sublist.refl _)) (⟨r2, _, _, _, rfl, rfl, hr2, rfl, rfl, rfl, .inl ⟨pu, rfl, hP3⟩⟩) _ (.inr rfl)
        · skip
          refine At.skip ?_
          exact At.finalX0 (N' := maB mb Ov Pv dv ba Tv Kv Gv x :: rowE thK 116 Tv (a ++ (⟨nx, bz, sc, some pu, pg, psc⟩ : Th) :: b) :: rowE evK 136 Gv (ea ++ ((ev.wAlloc x.now).wSteps (ev.steps + 1)) :: eb) :: raB ba wv r2 :: raW wv n r2 :: puB pu pDv pwp pxp pmp pov px :: NN) hds how rfl (by (exact List.Sublist.refl _)) (⟨r2, _, _, _, rfl, rfl, hr2, rfl, rfl, rfl, .inl ⟨pu, rfl, hP3⟩⟩) _ (.inr rfl)
  · skip
    refine At.skip ?_
    refine At.tN ?_
    refine At.seq ?_
    refine At.plain [(false, 0), (false, 1), (false, 2), (false, 3), (false, 4), (false, 5), (false, 6), (false, 7), (false, 8), (false, 9), (false, 10)] rfl ?_
    refine At.e rfl rfl rfl rfl .all (R.move (.t rfl)) ?_
    refine At.e rfl rfl rfl rfl .all (R.move (.t rfl)) ?_
    refine At.e rfl rfl rfl rfl .all (R.move (by exact .t rfl)) ?_
    refine At.e rfl rfl rfl rfl .all (R.nilCheckE (by exact .s rfl) (by assumption)) ?_
    refine At.e rfl rfl rfl rfl .all (R.fieldE fo_116_3 (by exact .s rfl) (by assumption)) ?_
    refine At.e rfl rfl rfl rfl .all (R.loadRd Tryz.underlying112 rfl (by exact .s rfl) (by exact wN M1) (fun hg => by exact Ek.getM rfl)) ?_
    refine At.e rfl rfl rfl rfl .all (R.nilCheckP (by exact .s rfl)) ?_
    refine At.e rfl rfl rfl rfl .all (R.fieldAddr fo_145_9 (by exact .s rfl)) ?_
    refine At.e rfl rfl rfl rfl .all (R.load Tryz.underlying3 rfl (by exact .s rfl) (by exact cN M5 rfl)) ?_
    refine At.e rfl rfl rfl rfl .all (R.neq (by exact .s rfl) .c) ?_
    refine At.e rfl rfl rfl rfl .all (R.pickAnd (.t rfl) rfl (by (intro hg h; rw [h]; rfl))) ?_
    refine At.nil ?_
    refine At.tN ?_
    refine At.cond (.t rfl) (fun c3 => ?_) (fun c3 => ?_)
    · skip
      refine At.drawM ([maB mb Ov Pv dv ba Tv Kv Gv x, rowE thK 116 Tv (a ++ (⟨nx, bz, sc, some pu, pg, psc⟩ : Th) :: b), rowE evK 136 Gv (ea ++ ev :: eb), raB ba wv r2, raW wv n r2, puB pu pDv pwp pxp pmp pov px]) ([]) [(true, 0), (true, 1), (true, 2), (true, 4), (true, 5), (true, 6), (true, 7)] [(true, 3), (true, 8), (true, 9), (true, 10), (true, 11), (true, 12)] [(true, 13), (true, 14), (false, 15)] (by (exact keepOf (by (apply List.Sublist.cons; apply List.Sublist.cons; apply List.Sublist.cons; apply List.sublist_append_of_sublist_right; apply List.Sublist.cons_cons; apply List.Sublist.cons_cons; apply List.Sublist.cons_cons; apply List.Sublist.cons_cons; apply List.Sublist.cons_cons; apply List.Sublist.cons_cons; exact List.nil_sublist _)))) (fun _ h => nomatch h) (by kernel_rfl) (by kernel_rfl) ?_
      refine At.s rfl rfl rfl rfl Cl.none (R.move (.t rfl)) ?_
      refine At.s rfl rfl rfl rfl Cl.none (R.nilCheckP (.t rfl)) ?_
      refine At.s rfl rfl rfl rfl Cl.none (R.fieldAddr fo_85_6 (.t rfl)) ?_
      refine At.s rfl rfl rfl rfl Cl.none (R.move (.t rfl)) ?_
      refine At.s rfl rfl rfl rfl Cl.none (R.move (.t rfl)) ?_
      refine At.s rfl rfl rfl rfl Cl.none (R.nilCheckE (.t rfl) (by assumption)) ?_
      refine At.s rfl rfl rfl rfl Cl.none (R.fieldE fo_116_3 (.t rfl) (by assumption)) ?_
      refine At.stage (Cl.kept (by (exact keepOf (by (apply List.Sublist.cons; apply List.Sublist.cons; apply List.Sublist.cons; apply List.sublist_append_of_sublist_right; apply List.Sublist.cons_cons; apply List.Sublist.cons_cons; apply List.Sublist.cons_cons; apply List.Sublist.cons_cons; apply List.Sublist.cons_cons; apply List.Sublist.cons_cons; exact List.nil_sublist _))))) ?_
      refine At.s rfl rfl rfl rfl (Cl.kept (by (exact keepOf (by (apply List.Sublist.cons; apply List.Sublist.cons; apply List.Sublist.cons; apply List.sublist_append_of_sublist_right; apply List.Sublist.cons_cons; apply List.Sublist.cons_cons; apply List.Sublist.cons_cons; apply List.Sublist.cons_cons; apply List.Sublist.cons_cons; apply List.Sublist.cons_cons; exact List.nil_sublist _))))) (R.load Tryz.underlying83 rfl (.t rfl) (by exact cK M0 rfl)) ?_
      refine At.s rfl rfl rfl rfl (Cl.kept (by (exact keepOf (by (apply List.Sublist.cons; apply List.Sublist.cons; apply List.Sublist.cons; apply List.sublist_append_of_sublist_right; apply List.Sublist.cons_cons; apply List.Sublist.cons_cons; apply List.Sublist.cons_cons; apply List.Sublist.cons_cons; apply List.Sublist.cons_cons; apply List.Sublist.cons_cons; exact List.nil_sublist _))))) (R.loadRd Tryz.underlying112 rfl (.t rfl) (by exact wK M1) (fun hg => by exact Ek.getM rfl)) ?_
      refine At.s rfl rfl rfl rfl (Cl.kept (by (exact keepOf (by (apply List.Sublist.cons; apply List.Sublist.cons; apply List.Sublist.cons; apply List.sublist_append_of_sublist_right; apply List.Sublist.cons_cons; apply List.Sublist.cons_cons; apply List.Sublist.cons_cons; apply List.Sublist.cons_cons; apply List.Sublist.cons_cons; apply List.Sublist.cons_cons; exact List.nil_sublist _))))) (R.nilCheckP (.t rfl)) ?_
      refine At.s rfl rfl rfl rfl (Cl.kept (by (exact keepOf (by (apply List.Sublist.cons; apply List.Sublist.cons; apply List.Sublist.cons; apply List.sublist_append_of_sublist_right; apply List.Sublist.cons_cons; apply List.Sublist.cons_cons; apply List.Sublist.cons_cons; apply List.Sublist.cons_cons; apply List.Sublist.cons_cons; apply List.Sublist.cons_cons; exact List.nil_sublist _))))) (R.fieldAddr fo_145_9 (.t rfl)) ?_
      refine At.s rfl rfl rfl rfl (Cl.kept (by (exact keepOf (by (apply List.Sublist.cons; apply List.Sublist.cons; apply List.Sublist.cons; apply List.sublist_append_of_sublist_right; apply List.Sublist.cons_cons; apply List.Sublist.cons_cons; apply List.Sublist.cons_cons; apply List.Sublist.cons_cons; apply List.Sublist.cons_cons; apply List.Sublist.cons_cons; exact List.nil_sublist _))))) (R.load Tryz.underlying3 rfl (.t rfl) (by exact cK M5 rfl)) ?_
      refine At.s rfl rfl rfl rfl (Cl.kept (by (exact keepOf (by (apply List.Sublist.cons; apply List.Sublist.cons; apply List.Sublist.cons; apply List.sublist_append_of_sublist_right; apply List.Sublist.cons_cons; apply List.Sublist.cons_cons; apply List.Sublist.cons_cons; apply List.Sublist.cons_cons; apply List.Sublist.cons_cons; apply List.Sublist.cons_cons; exact List.nil_sublist _))))) (R.build bt_134 (.cons (.t rfl) .nil) (.cons rfl .nil) rfl) ?_
      refine At.stage Cl.none ?_
      refine At.s rfl rfl rfl rfl Cl.none (R.indexN Tryz.underlying83 sz_136 (.t rfl) (by assumption) (.t rfl) (fun hg => (by exact midB))) ?_
      refine At.s rfl rfl rfl rfl Cl.none (R.fieldE fo_136_9 (.t rfl) (by assumption)) ?_
      refine At.stFld (k := evK) 12 (ev.wAn ⟨px.e, false, 0, 0, 0⟩ ⟨.slice none 0 0, rfl⟩) [.int .i64 px.e, .bool false, .int .i64 0, .int .i64 0, .int .i64 0, .slice none 0 0] rfl rfl sz_134 (.t rfl) (.t rfl) rfl rfl (Nat.le_of_ble_eq_true rfl) (.n U2) rfl ⟨Cl.none, ?_⟩
      refine At.nil ?_
      refine At.bN ?_
      refine At.tN ?_
      refine At.seq ?_
      refine At.plain [(false, 0), (false, 1), (false, 2), (false, 3), (false, 4), (false, 5), (false, 6), (false, 7), (false, 8), (false, 9), (false, 10), (false, 11)] rfl ?_
      refine At.e rfl rfl rfl rfl .all (R.move (.t rfl)) ?_
      refine At.e rfl rfl rfl rfl .all (R.nilCheckP (.t rfl)) ?_
      refine At.e rfl rfl rfl rfl .all (R.fieldAddr fo_85_6 (.t rfl)) ?_
      refine At.e rfl rfl rfl rfl .all (R.load Tryz.underlying83 rfl (.t rfl) (by exact cN M0 rfl)) ?_
      refine At.e rfl rfl rfl rfl .all (R.move (.t rfl)) ?_
      refine At.e rfl rfl rfl rfl .all (R.indexN Tryz.underlying83 sz_136 (.t rfl) (by assumption) (.t rfl) (fun hg => (by exact midB))) ?_
      refine At.e rfl rfl rfl rfl .all (R.fieldE fo_136_5 (.t rfl) (by assumption)) ?_
      refine At.e rfl rfl rfl rfl .all (R.loadRd Tryz.underlying3 rfl (.t rfl) (by exact wN M2) (fun hg => by exact Ek.getM rfl)) ?_
      refine At.e rfl rfl rfl rfl .all (R.addI (.t rfl) .c (fun hg => by (try dsimp only); omega)) ?_
      refine At.e rfl rfl rfl rfl .all (R.indexN Tryz.underlying83 sz_136 (.t rfl) (by assumption) (.t rfl) (fun hg => (by exact midB))) ?_
      refine At.e rfl rfl rfl rfl .all (R.fieldE fo_136_5 (.t rfl) (by assumption)) ?_
      refine At.stFld (k := evK) 8 ((ev.wAn ⟨px.e, false, 0, 0, 0⟩ ⟨.slice none 0 0, rfl⟩).wSteps (ev.steps + 1)) [.int .i64 (ev.steps + 1)] rfl rfl sz_3 (.t rfl) (.t rfl) rfl rfl (Nat.le_of_ble_eq_true rfl) (.n U2) rfl ⟨.all, ?_⟩
      refine At.nil ?_
      refine At.tN ?_
      refine At.seq ?_
      refine At.plain [(false, 0)] rfl ?_
      refine At.e rfl rfl rfl rfl .all (R.move (.t rfl)) ?_
      refine At.nil ?_
      refine At.tN ?_
      refine At.cond (.t rfl) (fun c4 => ?_) (fun c4 => ?_)
      · skip
        refine At.seq ?_
        refine At.plain [(false, 0), (false, 1), (false, 2), (false, 3)] rfl ?_
        refine At.e rfl rfl rfl rfl .all (R.move (.t rfl)) ?_
        refine At.e rfl rfl rfl rfl .all (R.nilCheckE (.t rfl) (by assumption)) ?_
        refine At.e rfl rfl rfl rfl .all (R.fieldE fo_116_1 (.t rfl) (by assumption)) ?_
        refine At.stFld (k := thK) 1 (⟨nx, false, sc, some pu, pg, psc⟩ : Th) [.bool false] rfl rfl sz_4 (.t rfl) .c rfl rfl (Nat.le_of_ble_eq_true rfl) (.n U1) rfl ⟨.all, ?_⟩
        refine At.nil ?_
        refine At.tN ?_
        refine At.drawM ([maB mb Ov Pv dv ba Tv Kv Gv x, rowE thK 116 Tv (a ++ (⟨nx, false, sc, some pu, pg, psc⟩ : Th) :: b), rowE evK 136 Gv (ea ++ ((ev.wAn ⟨px.e, false, 0, 0, 0⟩ ⟨.slice none 0 0, rfl⟩).wSteps (ev.steps + 1)) :: eb), raB ba wv r2, raW wv n r2, puB pu pDv pwp pxp pmp pov px]) ([]) [(true, 0), (true, 1), (true, 2), (true, 4), (true, 5), (true, 6), (true, 7)] [(true, 3), (true, 8)] [(true, 9), (true, 10), (false, 11)] (by (exact keepOf (by (apply List.Sublist.cons; apply List.Sublist.cons; apply List.Sublist.cons; apply List.sublist_append_of_sublist_right; apply List.Sublist.cons_cons; apply List.Sublist.cons_cons; apply List.Sublist.cons_cons; apply List.Sublist.cons_cons; apply List.Sublist.cons_cons; apply List.Sublist.cons_cons; exact List.nil_sublist _)))) (fun _ h => nomatch h) (by kernel_rfl) (by kernel_rfl) ?_
        refine At.s rfl rfl rfl rfl Cl.none (R.move (.t rfl)) ?_
        refine At.s rfl rfl rfl rfl Cl.none (R.nilCheckP (.t rfl)) ?_
        refine At.s rfl rfl rfl rfl Cl.none (R.fieldAddr fo_85_6 (.t rfl)) ?_
        refine At.s rfl rfl rfl rfl Cl.none (R.move (.t rfl)) ?_
        refine At.s rfl rfl rfl rfl Cl.none (R.move (.t rfl)) ?_
        refine At.s rfl rfl rfl rfl Cl.none (R.nilCheckP (.t rfl)) ?_
        refine At.s rfl rfl rfl rfl Cl.none (R.fieldAddr fo_85_3 (.t rfl)) ?_
        refine At.stage (Cl.kept (by (exact keepOf (by (apply List.Sublist.cons; apply List.Sublist.cons; apply List.Sublist.cons; apply List.sublist_append_of_sublist_right; apply List.Sublist.cons_cons; apply List.Sublist.cons_cons; apply List.Sublist.cons_cons; apply List.Sublist.cons_cons; apply List.Sublist.cons_cons; apply List.Sublist.cons_cons; exact List.nil_sublist _))))) ?_
        refine At.s rfl rfl rfl rfl (Cl.kept (by (exact keepOf (by (apply List.Sublist.cons; apply List.Sublist.cons; apply List.Sublist.cons; apply List.sublist_append_of_sublist_right; apply List.Sublist.cons_cons; apply List.Sublist.cons_cons; apply List.Sublist.cons_cons; apply List.Sublist.cons_cons; apply List.Sublist.cons_cons; apply List.Sublist.cons_cons; exact List.nil_sublist _))))) (R.load Tryz.underlying83 rfl (.t rfl) (by exact cK M0 rfl)) ?_
        refine At.s rfl rfl rfl rfl (Cl.kept (by (exact keepOf (by (apply List.Sublist.cons; apply List.Sublist.cons; apply List.Sublist.cons; apply List.sublist_append_of_sublist_right; apply List.Sublist.cons_cons; apply List.Sublist.cons_cons; apply List.Sublist.cons_cons; apply List.Sublist.cons_cons; apply List.Sublist.cons_cons; apply List.Sublist.cons_cons; exact List.nil_sublist _))))) (R.load Tryz.underlying3 rfl (.t rfl) (by exact cK M0 rfl)) ?_
        refine At.stage Cl.none ?_
        refine At.s rfl rfl rfl rfl Cl.none (R.indexN Tryz.underlying83 sz_136 (.t rfl) (by assumption) (.t rfl) (fun hg => (by exact midB))) ?_
        refine At.s rfl rfl rfl rfl Cl.none (R.fieldE fo_136_4 (.t rfl) (by assumption)) ?_
        refine At.stFld (k := evK) 7 (((ev.wAn ⟨px.e, false, 0, 0, 0⟩ ⟨.slice none 0 0, rfl⟩).wSteps (ev.steps + 1)).wFin x.now) [.int .i64 x.now] rfl rfl sz_3 (.t rfl) (.t rfl) rfl rfl (Nat.le_of_ble_eq_true rfl) (.n U2) rfl ⟨Cl.none, ?_⟩
        refine At.nil ?_
        exact At.finalX0 (N' := maB mb Ov Pv dv ba Tv Kv Gv x :: rowE thK 116 Tv (a ++ (⟨nx, false, sc, some pu, pg, psc⟩ : Th) :: b) :: rowE evK 136 Gv (ea ++ (((ev.wAn ⟨px.e, false, 0, 0, 0⟩ ⟨.slice none 0 0, rfl⟩).wSteps (ev.steps + 1)).wFin x.now) :: eb) :: raB ba wv r2 :: raW wv n r2 :: puB pu pDv pwp pxp pmp pov px :: NN) hds how rfl (by (exact List.Sublist.refl _)) (⟨r2, _, _, _, rfl, rfl, hr2, rfl, rfl, rfl, .inl ⟨pu, rfl, hP3⟩⟩) _ (.inr rfl)
      · skip
        refine At.skip ?_
        exact At.finalX0 (N' := maB mb Ov Pv dv ba Tv Kv Gv x :: rowE thK 116 Tv (a ++ (⟨nx, bz, sc, some pu, pg, psc⟩ : Th) :: b) :: rowE evK 136 Gv (ea ++ ((ev.wAn ⟨px.e, false, 0, 0, 0⟩ ⟨.slice none 0 0, rfl⟩).wSteps (ev.steps + 1)) :: eb) :: raB ba wv r2 :: raW wv n r2 :: puB pu pDv pwp pxp pmp pov px :: NN) hds how rfl (by (exact List.Sublist.refl _)) (⟨r2, _, _, _, rfl, rfl, hr2, rfl, rfl, rfl, .inl ⟨pu, rfl, hP3⟩⟩) _ (.inr rfl)
    · skip
      refine At.seq ?_
      refine At.plain [(false, 0)] rfl ?_
      refine At.e rfl rfl rfl rfl .all (R.move (.t rfl)) ?_
      refine At.nil ?_
      refine At.tN ?_
      refine At.cond (.t rfl) (fun c4 => ?_) (fun c4 => ?_)
      · skip
        refine At.drawM ([maB mb Ov Pv dv ba Tv Kv Gv x, rowE thK 116 Tv (a ++ (⟨nx, bz, sc, some pu, pg, psc⟩ : Th) :: b), rowE evK 136 Gv (ea ++ ev :: eb), raB ba wv r2, raW wv n r2, puB pu pDv pwp pxp pmp pov px]) ([]) [(true, 0), (true, 1), (true, 2), (true, 4), (true, 5), (true, 6), (true, 7)] [(true, 3), (true, 8), (true, 9), (true, 10), (true, 11), (true, 12)] [(true, 13), (true, 14), (false, 15)] (by (exact keepOf (by (apply List.Sublist.cons; apply List.Sublist.cons; apply List.Sublist.cons; apply List.sublist_append_of_sublist_right; apply List.Sublist.cons_cons; apply List.Sublist.cons_cons; apply List.Sublist.cons_cons; apply List.Sublist.cons_cons; apply List.Sublist.cons_cons; apply List.Sublist.cons_cons; exact List.nil_sublist _)))) (fun _ h => nomatch h) (by kernel_rfl) (by kernel_rfl) ?_
        refine At.s rfl rfl rfl rfl Cl.none (R.move (.t rfl)) ?_
        refine At.s rfl rfl rfl rfl Cl.none (R.nilCheckP (.t rfl)) ?_
        refine At.s rfl rfl rfl rfl Cl.none (R.fieldAddr fo_85_6 (.t rfl)) ?_
        refine At.s rfl rfl rfl rfl Cl.none (R.move (.t rfl)) ?_
        refine At.s rfl rfl rfl rfl Cl.none (R.move (.t rfl)) ?_
        refine At.s rfl rfl rfl rfl Cl.none (R.nilCheckE (.t rfl) (by assumption)) ?_
        refine At.s rfl rfl rfl rfl Cl.none (R.fieldE fo_116_3 (.t rfl) (by assumption)) ?_
        refine At.stage (Cl.kept (by (exact keepOf (by (apply List.Sublist.cons; apply List.Sublist.cons; apply List.Sublist.cons; apply List.sublist_append_of_sublist_right; apply List.Sublist.cons_cons; apply List.Sublist.cons_cons; apply List.Sublist.cons_cons; apply List.Sublist.cons_cons; apply List.Sublist.cons_cons; apply List.Sublist.cons_cons; exact List.nil_sublist _))))) ?_
        refine At.s rfl rfl rfl rfl (Cl.kept (by (exact keepOf (by (apply List.Sublist.cons; apply List.Sublist.cons; apply List.Sublist.cons; apply List.sublist_append_of_sublist_right; apply List.Sublist.cons_cons; apply List.Sublist.cons_cons; apply List.Sublist.cons_cons; apply List.Sublist.cons_cons; apply List.Sublist.cons_cons; apply List.Sublist.cons_cons; exact List.nil_sublist _))))) (R.load Tryz.underlying83 rfl (.t rfl) (by exact cK M0 rfl)) ?_
        refine At.s rfl rfl rfl rfl (Cl.kept (by (exact keepOf (by (apply List.Sublist.cons; apply List.Sublist.cons; apply List.Sublist.cons; apply List.sublist_append_of_sublist_right; apply List.Sublist.cons_cons; apply List.Sublist.cons_cons; apply List.Sublist.cons_cons; apply List.Sublist.cons_cons; apply List.Sublist.cons_cons; apply List.Sublist.cons_cons; exact List.nil_sublist _))))) (R.loadRd Tryz.underlying112 rfl (.t rfl) (by exact wK M1) (fun hg => by exact Ek.getM rfl)) ?_
        refine At.s rfl rfl rfl rfl (Cl.kept (by (exact keepOf (by (apply List.Sublist.cons; apply List.Sublist.cons; apply List.Sublist.cons; apply List.sublist_append_of_sublist_right; apply List.Sublist.cons_cons; apply List.Sublist.cons_cons; apply List.Sublist.cons_cons; apply List.Sublist.cons_cons; apply List.Sublist.cons_cons; apply List.Sublist.cons_cons; exact List.nil_sublist _))))) (R.nilCheckP (.t rfl)) ?_
        refine At.s rfl rfl rfl rfl (Cl.kept (by (exact keepOf (by (apply List.Sublist.cons; apply List.Sublist.cons; apply List.Sublist.cons; apply List.sublist_append_of_sublist_right; apply List.Sublist.cons_cons; apply List.Sublist.cons_cons; apply List.Sublist.cons_cons; apply List.Sublist.cons_cons; apply List.Sublist.cons_cons; apply List.Sublist.cons_cons; exact List.nil_sublist _))))) (R.fieldAddr fo_145_8 (.t rfl)) ?_
        refine At.s rfl rfl rfl rfl (Cl.kept (by (exact keepOf (by (apply List.Sublist.cons; apply List.Sublist.cons; apply List.Sublist.cons; apply List.sublist_append_of_sublist_right; apply List.Sublist.cons_cons; apply List.Sublist.cons_cons; apply List.Sublist.cons_cons; apply List.Sublist.cons_cons; apply List.Sublist.cons_cons; apply List.Sublist.cons_cons; exact List.nil_sublist _))))) (R.load Tryz.underlying3 rfl (.t rfl) (by exact cK M5 rfl)) ?_
        refine At.s rfl rfl rfl rfl (Cl.kept (by (exact keepOf (by (apply List.Sublist.cons; apply List.Sublist.cons; apply List.Sublist.cons; apply List.sublist_append_of_sublist_right; apply List.Sublist.cons_cons; apply List.Sublist.cons_cons; apply List.Sublist.cons_cons; apply List.Sublist.cons_cons; apply List.Sublist.cons_cons; apply List.Sublist.cons_cons; exact List.nil_sublist _))))) (R.build bt_134 (.cons .c (.cons (.t rfl) .nil)) (.cons rfl (.cons rfl .nil)) rfl) ?_
        refine At.stage Cl.none ?_
        refine At.s rfl rfl rfl rfl Cl.none (R.indexN Tryz.underlying83 sz_136 (.t rfl) (by assumption) (.t rfl) (fun hg => (by exact midB))) ?_
        refine At.s rfl rfl rfl rfl Cl.none (R.fieldE fo_136_9 (.t rfl) (by assumption)) ?_
        refine At.stFld (k := evK) 12 (ev.wAn ⟨0, false, 0, -1, px.version⟩ ⟨.slice none 0 0, rfl⟩) [.int .i64 0, .bool false, .int .i64 0, .int .i64 (-1), .int .i64 px.version, .slice none 0 0] rfl rfl sz_134 (.t rfl) (.t rfl) rfl rfl (Nat.le_of_ble_eq_true rfl) (.n U2) rfl ⟨Cl.none, ?_⟩
        refine At.nil ?_
        refine At.bN ?_
        refine At.tN ?_
        refine At.seq ?_
        refine At.plain [(false, 0), (false, 1), (false, 2), (false, 3), (false, 4), (false, 5), (false, 6), (false, 7), (false, 8), (false, 9), (false, 10), (false, 11)] rfl ?_
        refine At.e rfl rfl rfl rfl .all (R.move (.t rfl)) ?_
        refine At.e rfl rfl rfl rfl .all (R.nilCheckP (.t rfl)) ?_
        refine At.e rfl rfl rfl rfl .all (R.fieldAddr fo_85_6 (.t rfl)) ?_
        refine At.e rfl rfl rfl rfl .all (R.load Tryz.underlying83 rfl (.t rfl) (by exact cN M0 rfl)) ?_
        refine At.e rfl rfl rfl rfl .all (R.move (.t rfl)) ?_
        refine At.e rfl rfl rfl rfl .all (R.indexN Tryz.underlying83 sz_136 (.t rfl) (by assumption) (.t rfl) (fun hg => (by exact midB))) ?_
        refine At.e rfl rfl rfl rfl .all (R.fieldE fo_136_5 (.t rfl) (by assumption)) ?_
        refine At.e rfl rfl rfl rfl .all (R.loadRd Tryz.underlying3 rfl (.t rfl) (by exact wN M2) (fun hg => by exact Ek.getM rfl)) ?_
        refine At.e rfl rfl rfl rfl .all (R.addI (.t rfl) .c (fun hg => by (try dsimp only); omega)) ?_
        refine At.e rfl rfl rfl rfl .all (R.indexN Tryz.underlying83 sz_136 (.t rfl) (by assumption) (.t rfl) (fun hg => (by exact midB))) ?_
        refine At.e rfl rfl rfl rfl .all (R.fieldE fo_136_5 (.t rfl) (by assumption)) ?_
        refine At.stFld (k := evK) 8 ((ev.wAn ⟨0, false, 0, -1, px.version⟩ ⟨.slice none 0 0, rfl⟩).wSteps (ev.steps + 1)) [.int .i64 (ev.steps + 1)] rfl rfl sz_3 (.t rfl) (.t rfl) rfl rfl (Nat.le_of_ble_eq_true rfl) (.n U2) rfl ⟨.all, ?_⟩
        refine At.nil ?_
        refine At.tN ?_
        refine At.seq ?_
        refine At.plain [(false, 0)] rfl ?_
        refine At.e rfl rfl rfl rfl .all (R.move (.t rfl)) ?_
        refine At.nil ?_
        refine At.tN ?_
        refine At.cond (.t rfl) (fun c5 => ?_) (fun c5 => ?_)
        · skip
          refine At.seq ?_
          refine At.plain [(false, 0), (false, 1), (false, 2), (false, 3)] rfl ?_
          refine At.e rfl rfl rfl rfl .all (R.move (.t rfl)) ?_
          refine At.e rfl rfl rfl rfl .all (R.nilCheckE (.t rfl) (by assumption)) ?_
          refine At.e rfl rfl rfl rfl .all (R.fieldE fo_116_1 (.t rfl) (by assumption)) ?_
          refine At.stFld (k := thK) 1 (⟨nx, false, sc, some pu, pg, psc⟩ : Th) [.bool false] rfl rfl sz_4 (.t rfl) .c rfl rfl (Nat.le_of_ble_eq_true rfl) (.n U1) rfl ⟨.all, ?_⟩
          refine At.nil ?_
          refine At.tN ?_
          refine At.drawM ([maB mb Ov Pv dv ba Tv Kv Gv x, rowE thK 116 Tv (a ++ (⟨nx, false, sc, some pu, pg, psc⟩ : Th) :: b), rowE evK 136 Gv (ea ++ ((ev.wAn ⟨0, false, 0, -1, px.version⟩ ⟨.slice none 0 0, rfl⟩).wSteps (ev.steps + 1)) :: eb), raB ba wv r2, raW wv n r2, puB pu pDv pwp pxp pmp pov px]) ([]) [(true, 0), (true, 1), (true, 2), (true, 4), (true, 5), (true, 6), (true, 7)] [(true, 3), (true, 8)] [(true, 9), (true, 10), (false, 11)] (by (exact keepOf (by (apply List.Sublist.cons; apply List.Sublist.cons; apply List.Sublist.cons; apply List.sublist_append_of_sublist_right; apply List.Sublist.cons_cons; apply List.Sublist.cons_cons; apply List.Sublist.cons_cons; apply List.Sublist.cons_cons; apply List.Sublist.cons_cons; apply List.Sublist.cons_cons; exact List.nil_sublist _)))) (fun _ h => nomatch h) (by kernel_rfl) (by kernel_rfl) ?_
          refine At.s rfl rfl rfl rfl Cl.none (R.move (.t rfl)) ?_
          refine At.s rfl rfl rfl rfl Cl.none (R.nilCheckP (.t rfl)) ?_
          refine At.s rfl rfl rfl rfl Cl.none (R.fieldAddr fo_85_6 (.t rfl)) ?_
          refine At.s rfl rfl rfl rfl Cl.none (R.move (.t rfl)) ?_
          refine At.s rfl rfl rfl rfl Cl.none (R.move (.t rfl)) ?_
          refine At.s rfl rfl rfl rfl Cl.none (R.nilCheckP (.t rfl)) ?_
          refine At.s rfl rfl rfl rfl Cl.none (R.fieldAddr fo_85_3 (.t rfl)) ?_
          refine At.stage (Cl.kept (by (exact keepOf (by (apply List.Sublist.cons; apply List.Sublist.cons; apply List.Sublist.cons; apply List.sublist_append_of_sublist_right; apply List.Sublist.cons_cons; apply List.Sublist.cons_cons; apply List.Sublist.cons_cons; apply List.Sublist.cons_cons; apply List.Sublist.cons_cons; apply List.Sublist.cons_cons; exact List.nil_sublist _))))) ?_
          refine At.s rfl rfl rfl rfl (Cl.kept (by (exact keepOf (by (apply List.Sublist.cons; apply List.Sublist.cons; apply List.Sublist.cons; apply List.sublist_append_of_sublist_right; apply List.Sublist.cons_cons; apply List.Sublist.cons_cons; apply List.Sublist.cons_cons; apply List.Sublist.cons_cons; apply List.Sublist.cons_cons; apply List.Sublist.cons_cons; exact List.nil_sublist _))))) (R.load Tryz.underlying83 rfl (.t rfl) (by exact cK M0 rfl)) ?_
          refine At.s rfl rfl rfl rfl (Cl.kept (by (exact keepOf (by (apply List.Sublist.cons; apply List.Sublist.cons; apply List.Sublist.cons; apply List.sublist_append_of_sublist_right; apply List.Sublist.cons_cons; apply List.Sublist.cons_cons; apply List.Sublist.cons_cons; apply List.Sublist.cons_cons; apply List.Sublist.cons_cons; apply List.Sublist.cons_cons; exact List.nil_sublist _))))) (R.load Tryz.underlying3 rfl (.t rfl) (by exact cK M0 rfl)) ?_
          refine At.stage Cl.none ?_
          refine At.s rfl rfl rfl rfl Cl.none (R.indexN Tryz.underlying83 sz_136 (.t rfl) (by assumption) (.t rfl) (fun hg => (by exact midB))) ?_
          refine At.s rfl rfl rfl rfl Cl.none (R.fieldE fo_136_4 (.t rfl) (by assumption)) ?_
          refine At.stFld (k := evK) 7 (((ev.wAn ⟨0, false, 0, -1, px.version⟩ ⟨.slice none 0 0, rfl⟩).wSteps (ev.steps + 1)).wFin x.now) [.int .i64 x.now] rfl rfl sz_3 (.t rfl) (.t rfl) rfl rfl (Nat.le_of_ble_eq_true rfl) (.n U2) rfl ⟨Cl.none, ?_⟩
          refine At.nil ?_
          exact At.finalX0 (N' := maB mb Ov Pv dv ba Tv Kv Gv x :: rowE thK 116 Tv (a ++ (⟨nx, false, sc, some pu, pg, psc⟩ : Th) :: b) :: rowE evK 136 Gv (ea ++ (((ev.wAn ⟨0, false, 0, -1, px.version⟩ ⟨.slice none 0 0, rfl⟩).wSteps (ev.steps + 1)).wFin x.now) :: eb) :: raB ba wv r2 :: raW wv n r2 :: puB pu pDv pwp pxp pmp pov px :: NN) hds how rfl (by (exact List.Sublist.refl _)) (⟨r2, _, _, _, rfl, rfl, hr2, rfl, rfl, rfl, .inl ⟨pu, rfl, hP3⟩⟩) _ (.inr rfl)
        · skip
          refine At.skip ?_
          exact At.finalX0 (N' := maB mb Ov Pv dv ba Tv Kv Gv x :: rowE thK 116 Tv (a ++ (⟨nx, bz, sc, some pu, pg, psc⟩ : Th) :: b) :: rowE evK 136 Gv (ea ++ ((ev.wAn ⟨0, false, 0, -1, px.version⟩ ⟨.slice none 0 0, rfl⟩).wSteps (ev.steps + 1)) :: eb) :: raB ba wv r2 :: raW wv n r2 :: puB pu pDv pwp pxp pmp pov px :: NN) hds how rfl (by (exact List.Sublist.refl _)) (⟨r2, _, _, _, rfl, rfl, hr2, rfl, rfl, rfl, .inl ⟨pu, rfl, hP3⟩⟩) _ (.inr rfl)
      · skip
        refine At.skip ?_
        refine At.bN ?_
        refine At.tN ?_
        refine At.seq ?_
        refine At.plain [(false, 0), (false, 1), (false, 2), (false, 3), (false, 4), (false, 5), (false, 6), (false, 7), (false, 8), (false, 9), (false, 10), (false, 11)] rfl ?_
        refine At.e rfl rfl rfl rfl .all (R.move (.t rfl)) ?_
        refine At.e rfl rfl rfl rfl .all (R.nilCheckP (.t rfl)) ?_
        refine At.e rfl rfl rfl rfl .all (R.fieldAddr fo_85_6 (.t rfl)) ?_
        refine At.e rfl rfl rfl rfl .all (R.load Tryz.underlying83 rfl (.t rfl) (by exact cN M0 rfl)) ?_
        refine At.e rfl rfl rfl rfl .all (R.move (.t rfl)) ?_
        refine At.e rfl rfl rfl rfl .all (R.indexN Tryz.underlying83 sz_136 (.t rfl) (by assumption) (.t rfl) (fun hg => (by exact midB))) ?_
        refine At.e rfl rfl rfl rfl .all (R.fieldE fo_136_5 (.t rfl) (by assumption)) ?_
        refine At.e rfl rfl rfl rfl .all (R.loadRd Tryz.underlying3 rfl (.t rfl) (by exact wN M2) (fun hg => by exact Ek.getM rfl)) ?_
        refine At.e rfl rfl rfl rfl .all (R.addI (.t rfl) .c (fun hg => by (try dsimp only); omega)) ?_
        refine At.e rfl rfl rfl rfl .all (R.indexN Tryz.underlying83 sz_136 (.t rfl) (by assumption) (.t rfl) (fun hg => (by exact midB))) ?_
        refine At.e rfl rfl rfl rfl .all (R.fieldE fo_136_5 (.t rfl) (by assumption)) ?_
        refine At.stFld (k := evK) 8 (ev.wSteps (ev.steps + 1)) [.int .i64 (ev.steps + 1)] rfl rfl sz_3 (.t rfl) (.t rfl) rfl rfl (Nat.le_of_ble_eq_true rfl) (.n U2) rfl ⟨.all, ?_⟩
        refine At.nil ?_
        refine At.tN ?_
        refine At.seq ?_
        refine At.plain [(false, 0)] rfl ?_
        refine At.e rfl rfl rfl rfl .all (R.move (.t rfl)) ?_
        refine At.nil ?_
        refine At.tN ?_
        refine At.cond (.t rfl) (fun c5 => ?_) (fun c5 => ?_)
        · skip
          refine At.seq ?_
          refine At.plain [(false, 0), (false, 1), (false, 2), (false, 3)] rfl ?_
          refine At.e rfl rfl rfl rfl .all (R.move (.t rfl)) ?_
          refine At.e rfl rfl rfl rfl .all (R.nilCheckE (.t rfl) (by assumption)) ?_
          refine At.e rfl rfl rfl rfl .all (R.fieldE fo_116_1 (.t rfl) (by assumption)) ?_
          refine At.stFld (k := thK) 1 (⟨nx, false, sc, some pu, pg, psc⟩ : Th) [.bool false] rfl rfl sz_4 (.t rfl) .c rfl rfl (Nat.le_of_ble_eq_true rfl) (.n U1) rfl ⟨.all, ?_⟩
          refine At.nil ?_
          refine At.tN ?_
          refine At.drawM ([maB mb Ov Pv dv ba Tv Kv Gv x, rowE thK 116 Tv (a ++ (⟨nx, false, sc, some pu, pg, psc⟩ : Th) :: b), rowE evK 136 Gv (ea ++ (ev.wSteps (ev.steps + 1)) :: eb), raB ba wv r2, raW wv n r2, puB pu pDv pwp pxp pmp pov px]) ([]) [(true, 0), (true, 1), (true, 2), (true, 4), (true, 5), (true, 6), (true, 7)] [(true, 3), (true, 8)] [(true, 9), (true, 10), (false, 11)] (by (exact keepOf (by (apply List.Sublist.cons; apply List.Sublist.cons; apply List.Sublist.cons; apply List.sublist_append_of_sublist_right; apply List.Sublist.cons_cons; apply List.Sublist.cons_cons; apply List.Sublist.cons_cons; apply List.Sublist.cons_cons; apply List.Sublist.cons_cons; apply List.Sublist.cons_cons; exact List.nil_sublist _)))) (fun _ h => nomatch h) (by kernel_rfl) (by kernel_rfl) ?_
          refine At.s rfl rfl rfl rfl Cl.none (R.move (.t rfl)) ?_
          refine At.s rfl rfl rfl rfl Cl.none (R.nilCheckP (.t rfl)) ?_
          refine At.s rfl rfl rfl rfl Cl.none (R.fieldAddr fo_85_6 (.t rfl)) ?_
          refine At.s rfl rfl rfl rfl Cl.none (R.move (.t rfl)) ?_
          refine At.s rfl rfl rfl rfl Cl.none (R.move (.t rfl)) ?_
          refine At.s rfl rfl rfl rfl Cl.none (R.nilCheckP (.t rfl)) ?_
          refine At.s rfl rfl rfl rfl Cl.none (R.fieldAddr fo_85_3 (.t rfl)) ?_
          refine At.stage (Cl.kept (by (exact keepOf (by (apply List.Sublist.cons; apply List.Sublist.cons; apply List.Sublist.cons; apply List.sublist_append_of_sublist_right; apply List.Sublist.cons_cons; apply List.Sublist.cons_cons; apply List.Sublist.cons_cons; apply List.Sublist.cons_cons; apply List.Sublist.cons_cons; apply List.Sublist.cons_cons; exact List.nil_sublist _))))) ?_
          refine At.s rfl rfl rfl rfl (Cl.kept (by (exact keepOf (by (apply List.Sublist.cons; apply List.Sublist.cons; apply List.Sublist.cons; apply List.sublist_append_of_sublist_right; apply List.Sublist.cons_cons; apply List.Sublist.cons_cons; apply List.Sublist.cons_cons; apply List.Sublist.cons_cons; apply List.Sublist.cons_cons; apply List.Sublist.cons_cons; exact List.nil_sublist _))))) (R.load Tryz.underlying83 rfl (.t rfl) (by exact cK M0 rfl)) ?_
          refine At.s rfl rfl rfl rfl (Cl.kept (by (exact keepOf (by (apply List.Sublist.cons; apply List.Sublist.cons; apply List.Sublist.cons; apply List.sublist_append_of_sublist_right; apply List.Sublist.cons_cons; apply List.Sublist.cons_cons; apply List.Sublist.cons_cons; apply List.Sublist.cons_cons; apply List.Sublist.cons_cons; apply List.Sublist.cons_cons; exact List.nil_sublist _))))) (R.load Tryz.underlying3 rfl (.t rfl) (by exact cK M0 rfl)) ?_
          refine At.stage Cl.none ?_
          refine At.s rfl rfl rfl rfl Cl.none (R.indexN Tryz.underlying83 sz_136 (.t rfl) (by assumption) (.t rfl) (fun hg => (by exact midB))) ?_
          refine At.s rfl rfl rfl rfl Cl.none (R.fieldE fo_136_4 (.t rfl) (by assumption)) ?_
          refine At.stFld (k := evK) 7 ((ev.wSteps (ev.steps + 1)).wFin x.now) [.int .i64 x.now] rfl rfl sz_3 (.t rfl) (.t rfl) rfl rfl (Nat.le_of_ble_eq_true rfl) (.n U2) rfl ⟨Cl.none, ?_⟩
          refine At.nil ?_
          exact At.finalX0 (N' := maB mb Ov Pv dv ba Tv Kv Gv x :: rowE thK 116 Tv (a ++ (⟨nx, false, sc, some pu, pg, psc⟩ : Th) :: b) :: rowE evK 136 Gv (ea ++ ((ev.wSteps (ev.steps + 1)).wFin x.now) :: eb) :: raB ba wv r2 :: raW wv n r2 :: puB pu pDv pwp pxp pmp pov px :: NN) hds how rfl (by (exact List.Sublist.refl _)) (⟨r2, _, _, _, rfl, rfl, hr2, rfl, rfl, rfl, .inl ⟨pu, rfl, hP3⟩⟩) _ (.inr rfl)
        · skip
          refine At.skip ?_
          exact At.finalX0 (N' := maB mb Ov Pv dv ba Tv Kv Gv x :: rowE thK 116 Tv (a ++ (⟨nx, bz, sc, some pu, pg, psc⟩ : Th) :: b) :: rowE evK 136 Gv (ea ++ (ev.wSteps (ev.steps + 1)) :: eb) :: raB ba wv r2 :: raW wv n r2 :: puB pu pDv pwp pxp pmp pov px :: NN) hds how rfl (by (exact List.Sublist.refl _)) (⟨r2, _, _, _, rfl, rfl, hr2, rfl, rfl, rfl, .inl ⟨pu, rfl, hP3⟩⟩) _ (.inr rfl)
end Go.Proofs.YtbolanigdkgbdaaGreat
namespace Go.Proofs.YtbolanigdkgbdaaGreat
open Go Go.RowKit
set_option maxRecDepth 10000
set_option linter.unusedVariables false
set_option linter.unnecessarySimpa false
set_option linter.unusedSectionVars false
set_option maxHeartbeats 1000000
theorem ma_stepsG {k n : Nat} {mb ba : Nat} {Ov Pv dv Tv Kv Gv : Value} {x : Ma} {gs : opsRows} {wv : Value} {l0 ps : List Int} {a b : List Th} {ea eb : List Evt} {ev : Evt} {nx sc : Int} {bz : Bool} {r : Rr} {N : Hp} {bg : Nat} {gsc : Option Nat} (hQ : GeM k bg N) (hr : r.okk n k) (hn : n ≤ 1000000) (hk : k ≤ 800000) (hst : 0 ≤ ev.steps ∧ ev.steps ≤ 1000000) : FnX Tryz.prog 75 [.pointer (some ⟨mb, 0, none⟩), .int .i64 (a.length : Int), .int .i64 (ea.length : Int)] (rdE zK dv l0 :: rdE zK Pv ps :: nest opK Ov gs) (maB mb Ov Pv dv ba Tv Kv Gv x :: rowE thK 116 Tv (a ++ (⟨nx, bz, sc, none, some bg, gsc⟩ : Th) :: b) :: rowE evK 136 Gv (ea ++ ev :: eb) :: raB ba wv r :: raW wv n r :: N) (fun v N => ∃ r2 bz2 ev2 N2, v = .tuple #[] ∧ N = maB mb Ov Pv dv ba Tv Kv Gv x :: rowE thK 116 Tv (a ++ (⟨nx, bz2, sc, none, some bg, gsc⟩ : Th) :: b) :: rowE evK 136 Gv (ea ++ ev2 :: eb) :: raB ba wv r2 :: raW wv n r2 :: N2 ∧ r2.okk n (k + 1) ∧ ev2.thread = ev.thread ∧ ev2.index = ev.index ∧ ev2.steps = ev.steps + 1 ∧ OpM (k + 1) dv l0 (⟨nx, bz2, sc, none, some bg, gsc⟩ : Th) N2) := by
 refine FnX.enter Tryz.func75 (by kernel_rfl) rfl (n := 163) rfl rfl (fun w df hds how => ?_)
 have hG : ∀ y ∈ gs, rdE opK y.1 y.2 ∈ rdE zK dv l0 :: rdE zK Pv ps :: nest opK Ov gs := fun y hy => .tail _ (.tail _ (.tail _ ((List.mem_map.2 ⟨y, hy, rfl⟩))))
 have hTp := midP (a := a) (b := b) (x := (⟨nx, bz, sc, none, some bg, gsc⟩ : Th))
 have hGp := midP (a := ea) (b := eb) (x := ev)
 refine At.isl (v := Tv) (List.mem_append_right _ M1) hTp (fun hTv => ?_)
 refine At.isn (v := Gv) (List.mem_append_right _ M2) hGp (fun hGv hGn => ?_)
 refine At.seq ?_
 refine At.plain [ff 0, ff 1, ff 2, ff 3, ff 4, ff 5, ff 6] rfl ?_
 refine eA rfl (R.move (.t rfl)) ?_
 refine eA rfl (R.nilCheckP (.t rfl)) ?_
 refine eA rfl (R.fieldAddr fo_85_2 (.t rfl)) ?_
 refine eA rfl (R.load Tryz.underlying82 rfl (.t rfl) (cN M0 rfl)) ?_
 refine eA rfl (R.move (.t rfl)) ?_
 refine eA rfl (R.indexRd Tryz.underlying82 sz_116 (.t rfl) (wN M1) (.t rfl) (fun hg => (midB))) ?_
 refine eA rfl (R.assign (.t rfl)) ?_
 refine At.nil ?_
 refine At.tN ?_
 refine At.seq ?_
 refine At.plain [ff 0] rfl ?_
 refine eA rfl (R.assign .c) ?_
 refine At.nil ?_
 refine At.tN ?_
 refine At.seq ?_
 refine At.block ?_
 refine At.seq ?_
 refine At.plain [ff 0, ff 1, ff 2, ff 3, ff 4, ff 5] rfl ?_
 refine eA rfl (R.move (.t rfl)) ?_
 refine eA rfl (R.nilCheckE (.t rfl) (by assumption)) ?_
 refine eA rfl (R.fieldE fo_116_3 (.t rfl) (by assumption)) ?_
 refine eA rfl (R.loadRd Tryz.underlying112 rfl (.t rfl) (wN M1) (fun hg => by exact Ek.getM rfl)) ?_
 refine eA rfl (R.neqNilP Tryz.underlying112 (.t rfl)) ?_
 refine eA rfl (R.assign (.t rfl)) ?_
 refine At.nil ?_
 refine At.tN ?_
 refine At.condF (.t rfl) ?_
 refine At.seq ?_
 refine At.plain [ff 0, ff 1, ff 2, ff 3, ff 4, ff 5] rfl ?_
 refine eA rfl (R.move (.t rfl)) ?_
 refine eA rfl (R.nilCheckE (.t rfl) (by assumption)) ?_
 refine eA rfl (R.fieldE fo_116_4 (.t rfl) (by assumption)) ?_
 refine eA rfl (R.loadRd Tryz.underlying113 rfl (.t rfl) (wN M1) (fun hg => by exact Ek.getM rfl)) ?_
 refine eA rfl (R.neqNilP Tryz.underlying113 (.t rfl)) ?_
 refine eA rfl (R.assign (.t rfl)) ?_
 refine At.nil ?_
 refine At.tN ?_
 refine At.condT (.t rfl) ?_
 refine At.seq ?_
 refine At.drawM ([maB mb Ov Pv dv ba Tv Kv Gv x, rowE thK 116 Tv (a ++ (⟨nx, bz, sc, none, some bg, gsc⟩ : Th) :: b), rowE evK 136 Gv (ea ++ ev :: eb), raB ba wv r, raW wv n r]) ([]) [tt 0, tt 1, tt 2, tt 4, tt 5, tt 6] [tt 3, tt 7] [ff 8, tt 9] (by (exact keepOf (by (apply List.Sublist.cons; apply List.Sublist.cons; apply List.Sublist.cons; apply List.sublist_append_of_sublist_right; apply List.Sublist.cons_cons; apply List.Sublist.cons_cons; apply List.Sublist.cons_cons; apply List.Sublist.cons_cons; apply List.Sublist.cons_cons; exact List.nil_sublist _)))) (fun _ h => nomatch h) (by kernel_rfl) (by kernel_rfl) ?_
 refine sC rfl Cl.none (R.move (.t rfl)) ?_
 refine sC rfl Cl.none (R.nilCheckE (.t rfl) (by assumption)) ?_
 refine sC rfl Cl.none (R.fieldE fo_116_4 (.t rfl) (by assumption)) ?_
 refine sC rfl Cl.none (R.move (.t rfl)) ?_
 refine sC rfl Cl.none (R.nilCheckP (.t rfl)) ?_
 refine sC rfl Cl.none (R.fieldAddr fo_85_1 (.t rfl)) ?_
 refine At.stage kz ?_
 refine sC rfl kz (R.loadRd Tryz.underlying113 rfl (.t rfl) (wK M1) (fun hg => by exact Ek.getM rfl)) ?_
 refine sC rfl kz (R.load Tryz.underlying30 rfl (.t rfl) (cK M0 rfl)) ?_
 refine At.stage Cl.none ?_
 refine cX rfl rfl rfl (.k rfl (.k rfl .nil)) rfl (.skip (.skip (.skip .all))) .nil (ge_Step (ba := ba) (wv := wv) hQ hr hn hk) Aprt.nil (fun v B hR => ⟨Cl.none, ?_⟩); obtain ⟨e, r2, N2, rfl, rfl, hr2, hP2⟩ := hR; refine At.perm List.perm_append_comm ?_; refine At.re (N' := maB mb Ov Pv dv ba Tv Kv Gv x :: rowE thK 116 Tv (a ++ (⟨nx, bz, sc, none, some bg, gsc⟩ : Th) :: b) :: rowE evK 136 Gv (ea ++ ev :: eb) :: raB ba wv r2 :: raW wv n r2 :: N2) rfl ?_
 refine sC rfl Cl.none (R.assign (.t rfl)) ?_
 refine At.nil ?_
 refine At.tN ?_
 refine At.drawM ([maB mb Ov Pv dv ba Tv Kv Gv x, rowE thK 116 Tv (a ++ (⟨nx, bz, sc, none, some bg, gsc⟩ : Th) :: b), rowE evK 136 Gv (ea ++ ev :: eb), raB ba wv r2, raW wv n r2]) ([]) [tt 0, tt 1, tt 2, tt 4, tt 5, tt 6, tt 7] [tt 3, tt 8, ff 9] [tt 10, tt 11, ff 12] (by (exact keepOf (by (apply List.Sublist.cons; apply List.Sublist.cons; apply List.Sublist.cons; apply List.sublist_append_of_sublist_right; apply List.Sublist.cons_cons; apply List.Sublist.cons_cons; apply List.Sublist.cons_cons; apply List.Sublist.cons_cons; apply List.Sublist.cons_cons; exact List.nil_sublist _)))) (fun _ h => nomatch h) (by kernel_rfl) (by kernel_rfl) ?_
 refine sC rfl Cl.none (R.move (.t rfl)) ?_
 refine sC rfl Cl.none (R.nilCheckP (.t rfl)) ?_
 refine sC rfl Cl.none (R.fieldAddr fo_85_6 (.t rfl)) ?_
 refine sC rfl Cl.none (R.move (.t rfl)) ?_
 refine sC rfl Cl.none (R.move (.t rfl)) ?_
 refine sC rfl Cl.none (R.nilCheckE (.t rfl) (by assumption)) ?_
 refine sC rfl Cl.none (R.fieldE fo_116_4 (.t rfl) (by assumption)) ?_
 refine At.stage kz ?_
 refine sC rfl kz (R.load Tryz.underlying83 rfl (.t rfl) (cK M0 rfl)) ?_
 refine sC rfl kz (R.loadRd Tryz.underlying113 rfl (.t rfl) (wK M1) (fun hg => by exact Ek.getM rfl)) ?_
 refine cX rfl rfl rfl (.k rfl .nil) rfl (.skip (.skip (.skip (.skip (.skip .all))))) .nil (ge_Answer hP2) Aprt.nil (fun v B hR => ⟨Cl.keptB (keepOf (List.Sublist.refl _)), ?_⟩); obtain ⟨an, pv, rfl, hBN⟩ := hR; rw [hBN]; refine At.perm List.perm_append_comm ?_; refine At.re (N' := maB mb Ov Pv dv ba Tv Kv Gv x :: rowE thK 116 Tv (a ++ (⟨nx, bz, sc, none, some bg, gsc⟩ : Th) :: b) :: rowE evK 136 Gv (ea ++ ev :: eb) :: raB ba wv r2 :: raW wv n r2 :: N2) rfl ?_
 refine At.stage Cl.none ?_
 refine sC rfl Cl.none (R.indexN Tryz.underlying83 sz_136 (.t rfl) (by assumption) (.t rfl) (fun hg => (midB))) ?_
 refine sC rfl Cl.none (R.fieldE fo_136_9 (.t rfl) (by assumption)) ?_
 refine At.stFld (k := evK) 12 (ev.wAn an pv) [.int .i64 an.code, .bool an.found, .int .i64 an.val, .int .i64 an.writer, .int .i64 an.version, pv.1] rfl rfl sz_134 (.t rfl) (.t rfl) rfl (by simp only [List.all_cons, List.all_nil, pv.2]; rfl) (Nat.le_of_ble_eq_true rfl) (.n U2) rfl ⟨Cl.none, ?_⟩
 refine At.nil ?_
 refine At.bN ?_
 refine At.tN ?_
 refine At.seq ?_
 refine At.plain [ff 0, ff 1, ff 2, ff 3, ff 4, ff 5, ff 6, ff 7, ff 8, ff 9, ff 10, ff 11] rfl ?_
 refine eA rfl (R.move (.t rfl)) ?_
 refine eA rfl (R.nilCheckP (.t rfl)) ?_
 refine eA rfl (R.fieldAddr fo_85_6 (.t rfl)) ?_
 refine eA rfl (R.load Tryz.underlying83 rfl (.t rfl) (cN M0 rfl)) ?_
 refine eA rfl (R.move (.t rfl)) ?_
 refine eA rfl (R.indexN Tryz.underlying83 sz_136 (.t rfl) (by assumption) (.t rfl) (fun hg => (midB))) ?_
 refine eA rfl (R.fieldE fo_136_5 (.t rfl) (by assumption)) ?_
 refine eA rfl (R.loadRd Tryz.underlying3 rfl (.t rfl) (wN M2) (fun hg => by exact Ek.getM rfl)) ?_
 refine eA rfl (R.addI (.t rfl) .c (fun hg => by (try dsimp only); omega)) ?_
 refine eA rfl (R.indexN Tryz.underlying83 sz_136 (.t rfl) (by assumption) (.t rfl) (fun hg => (midB))) ?_
 refine eA rfl (R.fieldE fo_136_5 (.t rfl) (by assumption)) ?_
 refine At.stFld (k := evK) 8 ((ev.wAn an pv).wSteps (ev.steps + 1)) [.int .i64 (ev.steps + 1)] rfl rfl sz_3 (.t rfl) (.t rfl) rfl rfl (Nat.le_of_ble_eq_true rfl) (.n U2) rfl ⟨.all, ?_⟩
 refine At.nil ?_
 refine At.tN ?_
 refine At.seq ?_
 refine At.plain [ff 0] rfl ?_
 refine eA rfl (R.move (.t rfl)) ?_
 refine At.nil ?_
 refine At.tN ?_
 refine At.cond (.t rfl) (fun c3 => ?_) (fun c3 => ?_)
 ·
  refine At.seq ?_
  refine At.plain [ff 0, ff 1, ff 2, ff 3] rfl ?_
  refine eA rfl (R.move (.t rfl)) ?_
  refine eA rfl (R.nilCheckE (.t rfl) (by assumption)) ?_
  refine eA rfl (R.fieldE fo_116_1 (.t rfl) (by assumption)) ?_
  refine At.stFld (k := thK) 1 (⟨nx, false, sc, none, some bg, gsc⟩ : Th) [.bool false] rfl rfl sz_4 (.t rfl) .c rfl rfl (Nat.le_of_ble_eq_true rfl) (.n U1) rfl ⟨.all, ?_⟩
  refine W ?_
  refine At.drawM ([maB mb Ov Pv dv ba Tv Kv Gv x, rowE thK 116 Tv (a ++ (⟨nx, false, sc, none, some bg, gsc⟩ : Th) :: b), rowE evK 136 Gv (ea ++ ((ev.wAn an pv).wSteps (ev.steps + 1)) :: eb), raB ba wv r2, raW wv n r2]) ([]) [tt 0, tt 1, tt 2, tt 4, tt 5, tt 6, tt 7] [tt 3, tt 8] [tt 9, tt 10, ff 11] (by (exact keepOf (by (apply List.Sublist.cons; apply List.Sublist.cons; apply List.Sublist.cons; apply List.sublist_append_of_sublist_right; apply List.Sublist.cons_cons; apply List.Sublist.cons_cons; apply List.Sublist.cons_cons; apply List.Sublist.cons_cons; apply List.Sublist.cons_cons; exact List.nil_sublist _)))) (fun _ h => nomatch h) (by kernel_rfl) (by kernel_rfl) ?_
  refine sC rfl Cl.none (R.move (.t rfl)) ?_
  refine sC rfl Cl.none (R.nilCheckP (.t rfl)) ?_
  refine sC rfl Cl.none (R.fieldAddr fo_85_6 (.t rfl)) ?_
  refine sC rfl Cl.none (R.move (.t rfl)) ?_
  refine sC rfl Cl.none (R.move (.t rfl)) ?_
  refine sC rfl Cl.none (R.nilCheckP (.t rfl)) ?_
  refine sC rfl Cl.none (R.fieldAddr fo_85_3 (.t rfl)) ?_
  refine At.stage kz ?_
  refine sC rfl kz (R.load Tryz.underlying83 rfl (.t rfl) (cK M0 rfl)) ?_
  refine sC rfl kz (R.load Tryz.underlying3 rfl (.t rfl) (cK M0 rfl)) ?_
  refine At.stage Cl.none ?_
  refine sC rfl Cl.none (R.indexN Tryz.underlying83 sz_136 (.t rfl) (by assumption) (.t rfl) (fun hg => (midB))) ?_
  refine sC rfl Cl.none (R.fieldE fo_136_4 (.t rfl) (by assumption)) ?_
  refine At.stFld (k := evK) 7 (((ev.wAn an pv).wSteps (ev.steps + 1)).wFin x.now) [.int .i64 x.now] rfl rfl sz_3 (.t rfl) (.t rfl) rfl rfl (Nat.le_of_ble_eq_true rfl) (.n U2) rfl ⟨Cl.none, ?_⟩
  refine W ?_
  exact At.finalX0 (N' := maB mb Ov Pv dv ba Tv Kv Gv x :: rowE thK 116 Tv (a ++ (⟨nx, false, sc, none, some bg, gsc⟩ : Th) :: b) :: rowE evK 136 Gv (ea ++ (((ev.wAn an pv).wSteps (ev.steps + 1)).wFin x.now) :: eb) :: raB ba wv r2 :: raW wv n r2 :: N2) hds how rfl (List.Sublist.refl _) (⟨r2, _, _, _, rfl, rfl, hr2, rfl, rfl, rfl, .inr (.inl ⟨rfl, bg, rfl, hP2⟩)⟩) _ (.inr rfl)
 ·
  refine W ?_
  exact At.finalX0 (N' := maB mb Ov Pv dv ba Tv Kv Gv x :: rowE thK 116 Tv (a ++ (⟨nx, bz, sc, none, some bg, gsc⟩ : Th) :: b) :: rowE evK 136 Gv (ea ++ ((ev.wAn an pv).wSteps (ev.steps + 1)) :: eb) :: raB ba wv r2 :: raW wv n r2 :: N2) hds how rfl (List.Sublist.refl _) (⟨r2, _, _, _, rfl, rfl, hr2, rfl, rfl, rfl, .inr (.inl ⟨rfl, bg, rfl, hP2⟩)⟩) _ (.inr rfl)
theorem ma_stepsS {k n : Nat} {mb ba : Nat} {Ov Pv dv Tv Kv Gv : Value} {x : Ma} {gs : opsRows} {wv : Value} {l0 ps : List Int} {a b : List Th} {ea eb : List Evt} {ev : Evt} {nx sc : Int} {bz : Bool} {r : Rr} {N : Hp} {bs : Nat} (hQ : ScM k bs N) (hr : r.okk n k) (hn : n ≤ 1000000) (hk : k ≤ 800000) (hst : 0 ≤ ev.steps ∧ ev.steps ≤ 1000000) : FnX Tryz.prog 75 [.pointer (some ⟨mb, 0, none⟩), .int .i64 (a.length : Int), .int .i64 (ea.length : Int)] (rdE zK dv l0 :: rdE zK Pv ps :: nest opK Ov gs) (maB mb Ov Pv dv ba Tv Kv Gv x :: rowE thK 116 Tv (a ++ (⟨nx, bz, sc, none, none, some bs⟩ : Th) :: b) :: rowE evK 136 Gv (ea ++ ev :: eb) :: raB ba wv r :: raW wv n r :: N) (fun v N => ∃ r2 bz2 ev2 N2, v = .tuple #[] ∧ N = maB mb Ov Pv dv ba Tv Kv Gv x :: rowE thK 116 Tv (a ++ (⟨nx, bz2, sc, none, none, some bs⟩ : Th) :: b) :: rowE evK 136 Gv (ea ++ ev2 :: eb) :: raB ba wv r2 :: raW wv n r2 :: N2 ∧ r2.okk n (k + 1) ∧ ev2.thread = ev.thread ∧ ev2.index = ev.index ∧ ev2.steps = ev.steps + 1 ∧ OpM (k + 1) dv l0 (⟨nx, bz2, sc, none, none, some bs⟩ : Th) N2) := by
 refine FnX.enter Tryz.func75 (by kernel_rfl) rfl (n := 163) rfl rfl (fun w df hds how => ?_)
 have hG : ∀ y ∈ gs, rdE opK y.1 y.2 ∈ rdE zK dv l0 :: rdE zK Pv ps :: nest opK Ov gs := fun y hy => .tail _ (.tail _ (.tail _ ((List.mem_map.2 ⟨y, hy, rfl⟩))))
 have hTp := midP (a := a) (b := b) (x := (⟨nx, bz, sc, none, none, some bs⟩ : Th))
 have hGp := midP (a := ea) (b := eb) (x := ev)
 refine At.isl (v := Tv) (List.mem_append_right _ M1) hTp (fun hTv => ?_)
 refine At.isn (v := Gv) (List.mem_append_right _ M2) hGp (fun hGv hGn => ?_)
 refine At.seq ?_
 refine At.plain [ff 0, ff 1, ff 2, ff 3, ff 4, ff 5, ff 6] rfl ?_
 refine eA rfl (R.move (.t rfl)) ?_
 refine eA rfl (R.nilCheckP (.t rfl)) ?_
 refine eA rfl (R.fieldAddr fo_85_2 (.t rfl)) ?_
 refine eA rfl (R.load Tryz.underlying82 rfl (.t rfl) (cN M0 rfl)) ?_
 refine eA rfl (R.move (.t rfl)) ?_
 refine eA rfl (R.indexRd Tryz.underlying82 sz_116 (.t rfl) (wN M1) (.t rfl) (fun hg => (midB))) ?_
 refine eA rfl (R.assign (.t rfl)) ?_
 refine At.nil ?_
 refine At.tN ?_
 refine At.seq ?_
 refine At.plain [ff 0] rfl ?_
 refine eA rfl (R.assign .c) ?_
 refine At.nil ?_
 refine At.tN ?_
 refine At.seq ?_
 refine At.block ?_
 refine At.seq ?_
 refine At.plain [ff 0, ff 1, ff 2, ff 3, ff 4, ff 5] rfl ?_
 refine eA rfl (R.move (.t rfl)) ?_
 refine eA rfl (R.nilCheckE (.t rfl) (by assumption)) ?_
 refine eA rfl (R.fieldE fo_116_3 (.t rfl) (by assumption)) ?_
 refine eA rfl (R.loadRd Tryz.underlying112 rfl (.t rfl) (wN M1) (fun hg => by exact Ek.getM rfl)) ?_
 refine eA rfl (R.neqNilP Tryz.underlying112 (.t rfl)) ?_
 refine eA rfl (R.assign (.t rfl)) ?_
 refine At.nil ?_
 refine At.tN ?_
 refine At.condF (.t rfl) ?_
 refine At.seq ?_
 refine At.plain [ff 0, ff 1, ff 2, ff 3, ff 4, ff 5] rfl ?_
 refine eA rfl (R.move (.t rfl)) ?_
 refine eA rfl (R.nilCheckE (.t rfl) (by assumption)) ?_
 refine eA rfl (R.fieldE fo_116_4 (.t rfl) (by assumption)) ?_
 refine eA rfl (R.loadRd Tryz.underlying113 rfl (.t rfl) (wN M1) (fun hg => by exact Ek.getM rfl)) ?_
 refine eA rfl (R.neqNilP Tryz.underlying113 (.t rfl)) ?_
 refine eA rfl (R.assign (.t rfl)) ?_
 refine At.nil ?_
 refine At.tN ?_
 refine At.condF (.t rfl) ?_
 refine At.seq ?_
 refine At.drawM ([maB mb Ov Pv dv ba Tv Kv Gv x, rowE thK 116 Tv (a ++ (⟨nx, bz, sc, none, none, some bs⟩ : Th) :: b), rowE evK 136 Gv (ea ++ ev :: eb), raB ba wv r, raW wv n r]) ([]) [tt 0, tt 1, tt 2, tt 4, tt 5, tt 6] [tt 3, tt 7] [ff 8, tt 9] (by (exact keepOf (by (apply List.Sublist.cons; apply List.Sublist.cons; apply List.Sublist.cons; apply List.sublist_append_of_sublist_right; apply List.Sublist.cons_cons; apply List.Sublist.cons_cons; apply List.Sublist.cons_cons; apply List.Sublist.cons_cons; apply List.Sublist.cons_cons; exact List.nil_sublist _)))) (fun _ h => nomatch h) (by kernel_rfl) (by kernel_rfl) ?_
 refine sC rfl Cl.none (R.move (.t rfl)) ?_
 refine sC rfl Cl.none (R.nilCheckE (.t rfl) (by assumption)) ?_
 refine sC rfl Cl.none (R.fieldE fo_116_5 (.t rfl) (by assumption)) ?_
 refine sC rfl Cl.none (R.move (.t rfl)) ?_
 refine sC rfl Cl.none (R.nilCheckP (.t rfl)) ?_
 refine sC rfl Cl.none (R.fieldAddr fo_85_1 (.t rfl)) ?_
 refine At.stage kz ?_
 refine sC rfl kz (R.loadRd Tryz.underlying114 rfl (.t rfl) (wK M1) (fun hg => by exact Ek.getM rfl)) ?_
 refine sC rfl kz (R.load Tryz.underlying30 rfl (.t rfl) (cK M0 rfl)) ?_
 refine At.stage Cl.none ?_
 refine cX rfl rfl rfl (.k rfl (.k rfl .nil)) rfl (.skip (.skip (.skip .all))) .nil (sc_Step (ba := ba) (wv := wv) hQ hr hn hk) Aprt.nil (fun v B hR => ⟨Cl.none, ?_⟩); obtain ⟨e, r2, N2, rfl, rfl, hr2, hP2⟩ := hR; refine At.perm List.perm_append_comm ?_; refine At.re (N' := maB mb Ov Pv dv ba Tv Kv Gv x :: rowE thK 116 Tv (a ++ (⟨nx, bz, sc, none, none, some bs⟩ : Th) :: b) :: rowE evK 136 Gv (ea ++ ev :: eb) :: raB ba wv r2 :: raW wv n r2 :: N2) rfl ?_
 refine sC rfl Cl.none (R.assign (.t rfl)) ?_
 refine At.nil ?_
 refine At.tN ?_
 refine At.drawM ([maB mb Ov Pv dv ba Tv Kv Gv x, rowE thK 116 Tv (a ++ (⟨nx, bz, sc, none, none, some bs⟩ : Th) :: b), rowE evK 136 Gv (ea ++ ev :: eb), raB ba wv r2, raW wv n r2]) ([]) [tt 0, tt 1, tt 2, tt 4, tt 5, tt 6, tt 7] [tt 3, tt 8, ff 9] [tt 10, tt 11, ff 12] (by (exact keepOf (by (apply List.Sublist.cons; apply List.Sublist.cons; apply List.Sublist.cons; apply List.sublist_append_of_sublist_right; apply List.Sublist.cons_cons; apply List.Sublist.cons_cons; apply List.Sublist.cons_cons; apply List.Sublist.cons_cons; apply List.Sublist.cons_cons; exact List.nil_sublist _)))) (fun _ h => nomatch h) (by kernel_rfl) (by kernel_rfl) ?_
 refine sC rfl Cl.none (R.move (.t rfl)) ?_
 refine sC rfl Cl.none (R.nilCheckP (.t rfl)) ?_
 refine sC rfl Cl.none (R.fieldAddr fo_85_6 (.t rfl)) ?_
 refine sC rfl Cl.none (R.move (.t rfl)) ?_
 refine sC rfl Cl.none (R.move (.t rfl)) ?_
 refine sC rfl Cl.none (R.nilCheckE (.t rfl) (by assumption)) ?_
 refine sC rfl Cl.none (R.fieldE fo_116_5 (.t rfl) (by assumption)) ?_
 refine At.stage kz ?_
 refine sC rfl kz (R.load Tryz.underlying83 rfl (.t rfl) (cK M0 rfl)) ?_
 refine sC rfl kz (R.loadRd Tryz.underlying114 rfl (.t rfl) (wK M1) (fun hg => by exact Ek.getM rfl)) ?_
 refine cX rfl rfl rfl (.k rfl .nil) rfl (.skip (.skip (.skip (.skip (.skip .all))))) .nil (sc_Answer hP2 (by omega)) Aprt.nil (fun v B hR => ⟨Cl.keptB (keepOf (List.Sublist.refl _)), ?_⟩); obtain ⟨an, pv, rfl, hBN⟩ := hR; rw [hBN]; refine At.perm List.perm_append_comm ?_; refine At.re (N' := maB mb Ov Pv dv ba Tv Kv Gv x :: rowE thK 116 Tv (a ++ (⟨nx, bz, sc, none, none, some bs⟩ : Th) :: b) :: rowE evK 136 Gv (ea ++ ev :: eb) :: raB ba wv r2 :: raW wv n r2 :: N2) rfl ?_
 refine At.stage Cl.none ?_
 refine sC rfl Cl.none (R.indexN Tryz.underlying83 sz_136 (.t rfl) (by assumption) (.t rfl) (fun hg => (midB))) ?_
 refine sC rfl Cl.none (R.fieldE fo_136_9 (.t rfl) (by assumption)) ?_
 refine At.stFld (k := evK) 12 (ev.wAn an pv) [.int .i64 an.code, .bool an.found, .int .i64 an.val, .int .i64 an.writer, .int .i64 an.version, pv.1] rfl rfl sz_134 (.t rfl) (.t rfl) rfl (by simp only [List.all_cons, List.all_nil, pv.2]; rfl) (Nat.le_of_ble_eq_true rfl) (.n U2) rfl ⟨Cl.none, ?_⟩
 refine At.nil ?_
 refine At.bN ?_
 refine At.tN ?_
 refine At.seq ?_
 refine At.plain [ff 0, ff 1, ff 2, ff 3, ff 4, ff 5, ff 6, ff 7, ff 8, ff 9, ff 10, ff 11] rfl ?_
 refine eA rfl (R.move (.t rfl)) ?_
 refine eA rfl (R.nilCheckP (.t rfl)) ?_
 refine eA rfl (R.fieldAddr fo_85_6 (.t rfl)) ?_
 refine eA rfl (R.load Tryz.underlying83 rfl (.t rfl) (cN M0 rfl)) ?_
 refine eA rfl (R.move (.t rfl)) ?_
 refine eA rfl (R.indexN Tryz.underlying83 sz_136 (.t rfl) (by assumption) (.t rfl) (fun hg => (midB))) ?_
 refine eA rfl (R.fieldE fo_136_5 (.t rfl) (by assumption)) ?_
 refine eA rfl (R.loadRd Tryz.underlying3 rfl (.t rfl) (wN M2) (fun hg => by exact Ek.getM rfl)) ?_
 refine eA rfl (R.addI (.t rfl) .c (fun hg => by (try dsimp only); omega)) ?_
 refine eA rfl (R.indexN Tryz.underlying83 sz_136 (.t rfl) (by assumption) (.t rfl) (fun hg => (midB))) ?_
 refine eA rfl (R.fieldE fo_136_5 (.t rfl) (by assumption)) ?_
 refine At.stFld (k := evK) 8 ((ev.wAn an pv).wSteps (ev.steps + 1)) [.int .i64 (ev.steps + 1)] rfl rfl sz_3 (.t rfl) (.t rfl) rfl rfl (Nat.le_of_ble_eq_true rfl) (.n U2) rfl ⟨.all, ?_⟩
 refine At.nil ?_
 refine At.tN ?_
 refine At.seq ?_
 refine At.plain [ff 0] rfl ?_
 refine eA rfl (R.move (.t rfl)) ?_
 refine At.nil ?_
 refine At.tN ?_
 refine At.cond (.t rfl) (fun c3 => ?_) (fun c3 => ?_)
 ·
  refine At.seq ?_
  refine At.plain [ff 0, ff 1, ff 2, ff 3] rfl ?_
  refine eA rfl (R.move (.t rfl)) ?_
  refine eA rfl (R.nilCheckE (.t rfl) (by assumption)) ?_
  refine eA rfl (R.fieldE fo_116_1 (.t rfl) (by assumption)) ?_
  refine At.stFld (k := thK) 1 (⟨nx, false, sc, none, none, some bs⟩ : Th) [.bool false] rfl rfl sz_4 (.t rfl) .c rfl rfl (Nat.le_of_ble_eq_true rfl) (.n U1) rfl ⟨.all, ?_⟩
  refine W ?_
  refine At.drawM ([maB mb Ov Pv dv ba Tv Kv Gv x, rowE thK 116 Tv (a ++ (⟨nx, false, sc, none, none, some bs⟩ : Th) :: b), rowE evK 136 Gv (ea ++ ((ev.wAn an pv).wSteps (ev.steps + 1)) :: eb), raB ba wv r2, raW wv n r2]) ([]) [tt 0, tt 1, tt 2, tt 4, tt 5, tt 6, tt 7] [tt 3, tt 8] [tt 9, tt 10, ff 11] (by (exact keepOf (by (apply List.Sublist.cons; apply List.Sublist.cons; apply List.Sublist.cons; apply List.sublist_append_of_sublist_right; apply List.Sublist.cons_cons; apply List.Sublist.cons_cons; apply List.Sublist.cons_cons; apply List.Sublist.cons_cons; apply List.Sublist.cons_cons; exact List.nil_sublist _)))) (fun _ h => nomatch h) (by kernel_rfl) (by kernel_rfl) ?_
  refine sC rfl Cl.none (R.move (.t rfl)) ?_
  refine sC rfl Cl.none (R.nilCheckP (.t rfl)) ?_
  refine sC rfl Cl.none (R.fieldAddr fo_85_6 (.t rfl)) ?_
  refine sC rfl Cl.none (R.move (.t rfl)) ?_
  refine sC rfl Cl.none (R.move (.t rfl)) ?_
  refine sC rfl Cl.none (R.nilCheckP (.t rfl)) ?_
  refine sC rfl Cl.none (R.fieldAddr fo_85_3 (.t rfl)) ?_
  refine At.stage kz ?_
  refine sC rfl kz (R.load Tryz.underlying83 rfl (.t rfl) (cK M0 rfl)) ?_
  refine sC rfl kz (R.load Tryz.underlying3 rfl (.t rfl) (cK M0 rfl)) ?_
  refine At.stage Cl.none ?_
  refine sC rfl Cl.none (R.indexN Tryz.underlying83 sz_136 (.t rfl) (by assumption) (.t rfl) (fun hg => (midB))) ?_
  refine sC rfl Cl.none (R.fieldE fo_136_4 (.t rfl) (by assumption)) ?_
  refine At.stFld (k := evK) 7 (((ev.wAn an pv).wSteps (ev.steps + 1)).wFin x.now) [.int .i64 x.now] rfl rfl sz_3 (.t rfl) (.t rfl) rfl rfl (Nat.le_of_ble_eq_true rfl) (.n U2) rfl ⟨Cl.none, ?_⟩
  refine W ?_
  exact At.finalX0 (N' := maB mb Ov Pv dv ba Tv Kv Gv x :: rowE thK 116 Tv (a ++ (⟨nx, false, sc, none, none, some bs⟩ : Th) :: b) :: rowE evK 136 Gv (ea ++ (((ev.wAn an pv).wSteps (ev.steps + 1)).wFin x.now) :: eb) :: raB ba wv r2 :: raW wv n r2 :: N2) hds how rfl (List.Sublist.refl _) (⟨r2, _, _, _, rfl, rfl, hr2, rfl, rfl, rfl, .inr (.inr ⟨rfl, rfl, bs, rfl, hP2⟩)⟩) _ (.inr rfl)
 ·
  refine W ?_
  exact At.finalX0 (N' := maB mb Ov Pv dv ba Tv Kv Gv x :: rowE thK 116 Tv (a ++ (⟨nx, bz, sc, none, none, some bs⟩ : Th) :: b) :: rowE evK 136 Gv (ea ++ ((ev.wAn an pv).wSteps (ev.steps + 1)) :: eb) :: raB ba wv r2 :: raW wv n r2 :: N2) hds how rfl (List.Sublist.refl _) (⟨r2, _, _, _, rfl, rfl, hr2, rfl, rfl, rfl, .inr (.inr ⟨rfl, rfl, bs, rfl, hP2⟩)⟩) _ (.inr rfl)
end Go.Proofs.YtbolanigdkgbdaaGreat
