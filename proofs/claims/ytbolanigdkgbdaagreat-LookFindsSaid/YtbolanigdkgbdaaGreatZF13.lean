/- Part of the proof: lemmas for what the last file states; no condition. -/
import Derived.Test.YtbolanigdkgbdaaGreatZF12
set_option linter.unusedSectionVars false
namespace Go.Proofs.YtbolanigdkgbdaaGreat
open Go Go.RowKit
set_option maxRecDepth 10000
set_option linter.unusedVariables false
set_option linter.unnecessarySimpa false
set_option linter.unusedSectionVars false
set_option maxHeartbeats 1000000
theorem fo_136_7 : fieldOff? Tryz.prog 136 7 = some 10 := by kernel_rfl
theorem fo_136_8 : fieldOff? Tryz.prog 136 8 = some 11 := by kernel_rfl
theorem fo_57_0 : fieldOff? Tryz.prog 57 0 = some 0 := by kernel_rfl
theorem fo_57_1 : fieldOff? Tryz.prog 57 1 = some 1 := by kernel_rfl
theorem fo_57_2 : fieldOff? Tryz.prog 57 2 = some 2 := by kernel_rfl
theorem fo_57_3 : fieldOff? Tryz.prog 57 3 = some 3 := by kernel_rfl
theorem fo_57_4 : fieldOff? Tryz.prog 57 4 = some 4 := by kernel_rfl
theorem fo_85_5 : fieldOff? Tryz.prog 85 5 = some 11 := by kernel_rfl
theorem ze_57 : (Tryz.prog.info? 57).bind (·.zero) = some (.agg #[.int .i64 0, .int .i64 0, .int .i64 0, .int .i64 0, .bool false]) := by kernel_rfl
def evKey (e : Evt) : Int × Int × Int := (e.thread, e.index, e.steps)
theorem EvF.pos {es : List Evt} {t i q : Int} (h : EvF es t i q) (hq : 0 ≤ q) : ∃ ea eb e, es = ea ++ e :: eb ∧ q = (ea.length : Int) := by
  cases h with
  | no h => omega
  | yes h1 h2 h3 => exact ⟨_, _, _, h1, rfl⟩
theorem rN2 [Df] {w0 : World} {S N H : Hp} {v : Value} {E : TypeId} {sz m : Nat} {xs : List Value} (h : Ent.row v E sz m xs ∈ S ++ (N ++ H)) : RdIn (fun w => St w0 w S N H) v sz m xs := RdIn.row (.st h)
theorem r_VersionE {s : Int} : Fn Tryz.prog 19 [.int .i64 s] ([]) ([]) (fun v N H => (∃ z, v = .int .i64 z) ∧ N = [] ∧ H = []) := by
 refine Fn.enter Tryz.func19 (by kernel_rfl) rfl (n := 7) rfl rfl (fun w => ?_)
 refine Z ?_
 refine At.condD (.t rfl) (fun c1 => ?_) (fun c1 => ?_)
 ·
  refine W ?_
  exact fT rfl (.t rfl) (⟨⟨_, rfl⟩, rfl, rfl⟩)
 ·
  refine W ?_
  refine eA rfl (R.sub (.t rfl) .c) ?_
  refine W ?_
  exact fT rfl (.t rfl) (⟨⟨_, rfl⟩, rfl, rfl⟩)
theorem ma_notes {n : Nat} {mb ba : Nat} {Ov Pv dv Tv Kv Gv : Value} {x : Ma} {gs : opsRows} {wv : Value} {l0 ps ks : List Int} {es : List Evt} {r : Rr} (hn : r.w.length = n) (hN : n ≤ 1000000) (hkl : ks.length ≤ 1000000000) (hel : es.length ≤ 1000000) : FnX Tryz.prog 77 [.pointer (some ⟨mb, 0, none⟩)] (rdE zK dv l0 :: rdE zK Pv ps :: nest opK Ov gs) ([maB mb Ov Pv dv ba Tv Kv Gv x, raB ba wv r, raW wv n r, rowE zK 3 Kv (ks), rowE evK 136 Gv es]) (fun v N => ∃ kv ks2 es2, v = .tuple #[] ∧ N = [maB mb Ov Pv dv ba Tv kv Gv x, raB ba wv r, raW wv n r, rowE zK 3 kv (ks2), rowE evK 136 Gv es2] ∧ ks2.length ≤ ks.length + 1 ∧ es2.map evKey = es.map evKey) := by
 refine FnX.enter Tryz.func77 (by kernel_rfl) rfl (n := 92) rfl rfl (fun w df hds how => ?_)
 have hG : ∀ y ∈ gs, rdE opK y.1 y.2 ∈ rdE zK dv l0 :: rdE zK Pv ps :: nest opK Ov gs := fun y hy => .tail _ (.tail _ (.tail _ ((List.mem_map.2 ⟨y, hy, rfl⟩))))
 refine W ?_
 refine At.alloc rfl rfl rfl ze_57 (fun lb hlb => ⟨.all, ?_⟩)
 refine At.stN rfl rfl sz_57 (.t rfl) (.t rfl) rfl rfl rfl (.n U0) ⟨.all, ?_⟩
 refine Z ?_
 refine At.cut2 (fun (kv : Value) (ks2 : List Int) => ks2.length ≤ ks.length + 1) (fun (kv : Value) (ks2 : List Int) => [(0, true, .pointer (some ⟨mb, 0, none⟩)), (2, true, .pointer (some ⟨lb, 0, none⟩))]) (fun (kv : Value) (ks2 : List Int) => [.blk lb (.cells #[.int .i64 r.k, .int .i64 r.at_, .int .i64 r.old, .int .i64 r.nw, .bool r.ok] 57), maB mb Ov Pv dv ba Tv kv Gv x, raB ba wv r, raW wv n r, rowE zK 3 kv (ks2), rowE evK 136 Gv es]) (fun (kv : Value) (ks2 : List Int) => []) ?_ (fun kv ks2 hi => ?_)
 ·
  refine At.cond (.t rfl) (fun c1 => ?_) (fun c1 => ?_)
  ·
   let F11 : Value → Value → Value → Fr := fun va vl vc => [(21, pt mb 0), (22, pt mb 0), (23, pt mb 0), (24, pt mb 11), (25, true, Kv), (26, true, va), (27, pt mb 0), (28, pt mb 0), (29, pt mb 9), (30, iv x.now), (31, true, vl), (32, true, vc), (33, pt mb 0), (34, pt mb 11), (0, pt mb 0), (2, pt lb 0)]
   refine At.dag [tt 0, tt 1, tt 2, tt 3, tt 6, tt 7, tt 8] 8 (mT 15 [0, 1, 2, 3, 6, 7, 8]) ([]) (fun _ h => nomatch h) (by kernel_rfl) (by kernel_rfl) (fun G hnode hdone => ?_)
   have g0 : ∀ (va vl vc : Value), At w 92 (rdE zK dv l0 :: rdE zK Pv ps :: nest opK Ov gs) (fs (F11 va vl vc) 65535) ([rowE zK 3 vc (([] ++ ks) ++ [x.now]), .blk lb (.cells #[.int .i64 r.k, .int .i64 r.at_, .int .i64 r.old, .int .i64 r.nw, .bool r.ok] 57), maB mb Ov Pv dv ba Tv vc Gv x, raB ba wv r, raW wv n r, rowE zK 3 Kv (ks), rowE evK 136 Gv es]) ([]) (G 0 (mF 15 [])) := fun va vl vc => by
    refine hdone _ _ _ (by kernel_rfl) ?_
    refine At.fewer (N1 := [rowE zK 3 vc (([] ++ ks) ++ [x.now]), .blk lb (.cells #[.int .i64 r.k, .int .i64 r.at_, .int .i64 r.old, .int .i64 r.nw, .bool r.ok] 57), maB mb Ov Pv dv ba Tv vc Gv x, raB ba wv r, raW wv n r, rowE evK 136 Gv es]) sl (permOf [_, _, _, _, _, _] [0, 1, 2, 3, 4, 5] [1, 2, 3, 4, 0, 5] rfl []) ?_
    refine At.re (N' := [.blk lb (.cells #[.int .i64 r.k, .int .i64 r.at_, .int .i64 r.old, .int .i64 r.nw, .bool r.ok] 57), maB mb Ov Pv dv ba Tv vc Gv x, raB ba wv r, raW wv n r, rowE zK 3 vc (([] ++ ks) ++ [x.now]), rowE evK 136 Gv es]) rfl ?_
    refine W ?_
    exact At.mid2 (vc) (([] ++ ks) ++ [x.now]) (by simp) (.cons rfl (.cons rfl .nil)) (List.Sublist.refl _) rfl
   have g1 : ∀ (va vl vc : Value), At w 92 (rdE zK dv l0 :: rdE zK Pv ps :: nest opK Ov gs) (fs (F11 va vl vc) 65535) ([rowE zK 3 vc (([] ++ ks) ++ [x.now]), .blk lb (.cells #[.int .i64 r.k, .int .i64 r.at_, .int .i64 r.old, .int .i64 r.nw, .bool r.ok] 57), maB mb Ov Pv dv ba Tv Kv Gv x, raB ba wv r, raW wv n r, rowE zK 3 Kv (ks), rowE evK 136 Gv es]) ([]) (G 1 (mF 15 [14])) := fun va vl vc => by
    refine hnode _ _ _ _ [(14, [], 0, (mF 15 []))] (by kernel_rfl) kz ?_
    ·
     refine At.rowOne (v := vc) (List.mem_append_right _ M0) (fun h1v => ?_)
     refine At.st1 rfl rfl sz_25 (.t rfl) (.t rfl) h1v rfl (.n U2) ⟨kz, ?_⟩
     refine W ?_
     exact wk (g0 va vl vc)
   have g2 : ∀ (va vl : Value), At w 92 (rdE zK dv l0 :: rdE zK Pv ps :: nest opK Ov gs) (fs (F11 va vl .nilFunc) 51199) ([rowE zK 3 vl ([x.now]), rowE zK 3 va ([] ++ ks), .blk lb (.cells #[.int .i64 r.k, .int .i64 r.at_, .int .i64 r.old, .int .i64 r.nw, .bool r.ok] 57), maB mb Ov Pv dv ba Tv Kv Gv x, raB ba wv r, raW wv n r, rowE zK 3 Kv (ks), rowE evK 136 Gv es]) ([]) (G 4 (mF 15 [11, 12, 13, 14])) := fun va vl => by
    refine hnode _ _ _ _ [(11, [tt 12, tt 13], 1, (mF 15 [14]))] (by kernel_rfl) kz ?_
    ·
     refine At.app (k := zK) rfl rfl rfl Tryz.underlying25 et_3 (.t rfl) (.t rfl) (fun _ => by (exact U1)) (wN M0) (by (simp <;> omega)) (fun v1 => ⟨kz, ?_⟩)
     refine W ?_
     exact wk (g1 va vl v1)
   have g3 : ∀ (va : Value), At w 92 (rdE zK dv l0 :: rdE zK Pv ps :: nest opK Ov gs) (fs (F11 va .nilFunc .nilFunc) 50175) ([rowE zK 3 va ([] ++ ks), .blk lb (.cells #[.int .i64 r.k, .int .i64 r.at_, .int .i64 r.old, .int .i64 r.nw, .bool r.ok] 57), maB mb Ov Pv dv ba Tv Kv Gv x, raB ba wv r, raW wv n r, rowE zK 3 Kv (ks), rowE evK 136 Gv es]) ([]) (G 5 (mF 15 [10, 11, 12, 13, 14])) := fun va => by
    refine hnode _ _ _ _ [(10, [], 4, (mF 15 [11, 12, 13, 14]))] (by kernel_rfl) kz ?_
    ·
     refine At.lit (k := zK) rfl rfl rfl Tryz.underlying25 et_3 (.k rfl .nil) (.cons rfl .nil) rfl rfl rfl (fun v1 => ⟨kz, ?_⟩)
     refine W ?_
     exact wk (g2 va v1)
   have g4 : ∀ (vl : Value), At w 92 (rdE zK dv l0 :: rdE zK Pv ps :: nest opK Ov gs) (fs (F11 .nilFunc vl .nilFunc) 51167) ([rowE zK 3 vl ([x.now]), .blk lb (.cells #[.int .i64 r.k, .int .i64 r.at_, .int .i64 r.old, .int .i64 r.nw, .bool r.ok] 57), maB mb Ov Pv dv ba Tv Kv Gv x, raB ba wv r, raW wv n r, rowE zK 3 Kv (ks), rowE evK 136 Gv es]) ([]) (G 5 (mF 15 [5, 11, 12, 13, 14])) := fun vl => by
    refine hnode _ _ _ _ [(5, [], 4, (mF 15 [11, 12, 13, 14]))] (by kernel_rfl) kz ?_
    ·
     (refine At.nilRow zK 3 ?_; refine At.app (k := zK) rfl rfl rfl Tryz.underlying25 et_3 .c (.t rfl) (fun _ => by (exact U0)) (wN M6) (by (simp <;> omega)) (fun v1 => ⟨kz, ?_⟩))
     refine W ?_
     refine At.perm (List.Perm.swap _ _ _) ?_
     exact wk (g2 v1 vl)
   have g5 : ∀ (va : Value), At w 92 (rdE zK dv l0 :: rdE zK Pv ps :: nest opK Ov gs) (fs (F11 va .nilFunc .nilFunc) 49663) ([rowE zK 3 va ([] ++ ks), .blk lb (.cells #[.int .i64 r.k, .int .i64 r.at_, .int .i64 r.old, .int .i64 r.nw, .bool r.ok] 57), maB mb Ov Pv dv ba Tv Kv Gv x, raB ba wv r, raW wv n r, rowE zK 3 Kv (ks), rowE evK 136 Gv es]) ([]) (G 6 (mF 15 [9, 10, 11, 12, 13, 14])) := fun va => by
    refine hnode _ _ _ _ [(9, [], 5, (mF 15 [10, 11, 12, 13, 14]))] (by kernel_rfl) kz ?_
    ·
     refine WD ?_
     exact wk (g3 va)
   have g6 : ∀ (_ : True), At w 92 (rdE zK dv l0 :: rdE zK Pv ps :: nest opK Ov gs) (fs (F11 .nilFunc .nilFunc .nilFunc) 50143) ([.blk lb (.cells #[.int .i64 r.k, .int .i64 r.at_, .int .i64 r.old, .int .i64 r.nw, .bool r.ok] 57), maB mb Ov Pv dv ba Tv Kv Gv x, raB ba wv r, raW wv n r, rowE zK 3 Kv (ks), rowE evK 136 Gv es]) ([]) (G 6 (mF 15 [5, 10, 11, 12, 13, 14])) := fun _ => by
    refine hnode _ _ _ _ [(5, [], 5, (mF 15 [10, 11, 12, 13, 14])), (10, [], 5, (mF 15 [5, 11, 12, 13, 14]))] (by kernel_rfl) kz ?_
    refine ⟨?_, ?_⟩
    ·
     (refine At.nilRow zK 3 ?_; refine At.app (k := zK) rfl rfl rfl Tryz.underlying25 et_3 .c (.t rfl) (fun _ => by (exact U0)) (wN M5) (by (simp <;> omega)) (fun v1 => ⟨kz, ?_⟩))
     refine W ?_
     exact wk (g3 v1)
    ·
     refine At.lit (k := zK) rfl rfl rfl Tryz.underlying25 et_3 (.k rfl .nil) (.cons rfl .nil) rfl rfl rfl (fun v1 => ⟨kz, ?_⟩)
     refine W ?_
     exact wk (g4 v1)
   have g7 : ∀ (vl : Value), At w 92 (rdE zK dv l0 :: rdE zK Pv ps :: nest opK Ov gs) (fs (F11 .nilFunc vl .nilFunc) 51151) ([rowE zK 3 vl ([x.now]), .blk lb (.cells #[.int .i64 r.k, .int .i64 r.at_, .int .i64 r.old, .int .i64 r.nw, .bool r.ok] 57), maB mb Ov Pv dv ba Tv Kv Gv x, raB ba wv r, raW wv n r, rowE zK 3 Kv (ks), rowE evK 136 Gv es]) ([]) (G 6 (mF 15 [4, 5, 11, 12, 13, 14])) := fun vl => by
    refine hnode _ _ _ _ [(4, [], 5, (mF 15 [5, 11, 12, 13, 14]))] (by kernel_rfl) kz ?_
    ·
     refine WD ?_
     exact wk (g4 vl)
   have g8 : ∀ (_ : True), At w 92 (rdE zK dv l0 :: rdE zK Pv ps :: nest opK Ov gs) (fs (F11 .nilFunc .nilFunc .nilFunc) 49631) ([.blk lb (.cells #[.int .i64 r.k, .int .i64 r.at_, .int .i64 r.old, .int .i64 r.nw, .bool r.ok] 57), maB mb Ov Pv dv ba Tv Kv Gv x, raB ba wv r, raW wv n r, rowE zK 3 Kv (ks), rowE evK 136 Gv es]) ([]) (G 7 (mF 15 [5, 9, 10, 11, 12, 13, 14])) := fun _ => by
    refine hnode _ _ _ _ [(5, [], 6, (mF 15 [9, 10, 11, 12, 13, 14])), (9, [], 6, (mF 15 [5, 10, 11, 12, 13, 14]))] (by kernel_rfl) kz ?_
    refine ⟨?_, ?_⟩
    ·
     (refine At.nilRow zK 3 ?_; refine At.app (k := zK) rfl rfl rfl Tryz.underlying25 et_3 .c (.t rfl) (fun _ => by (exact U0)) (wN M5) (by (simp <;> omega)) (fun v1 => ⟨kz, ?_⟩))
     refine W ?_
     exact wk (g5 v1)
    ·
     refine WD ?_
     exact wk (g6 trivial)
   have g9 : ∀ (_ : True), At w 92 (rdE zK dv l0 :: rdE zK Pv ps :: nest opK Ov gs) (fs (F11 .nilFunc .nilFunc .nilFunc) 50127) ([.blk lb (.cells #[.int .i64 r.k, .int .i64 r.at_, .int .i64 r.old, .int .i64 r.nw, .bool r.ok] 57), maB mb Ov Pv dv ba Tv Kv Gv x, raB ba wv r, raW wv n r, rowE zK 3 Kv (ks), rowE evK 136 Gv es]) ([]) (G 7 (mF 15 [4, 5, 10, 11, 12, 13, 14])) := fun _ => by
    refine hnode _ _ _ _ [(4, [], 6, (mF 15 [5, 10, 11, 12, 13, 14])), (10, [], 6, (mF 15 [4, 5, 11, 12, 13, 14]))] (by kernel_rfl) kz ?_
    refine ⟨?_, ?_⟩
    ·
     refine WD ?_
     exact wk (g6 trivial)
    ·
     refine At.lit (k := zK) rfl rfl rfl Tryz.underlying25 et_3 (.k rfl .nil) (.cons rfl .nil) rfl rfl rfl (fun v1 => ⟨kz, ?_⟩)
     refine W ?_
     exact wk (g7 v1)
   have g10 : ∀ (_ : True), At w 92 (rdE zK dv l0 :: rdE zK Pv ps :: nest opK Ov gs) (fs (F11 .nilFunc .nilFunc .nilFunc) 49615) ([.blk lb (.cells #[.int .i64 r.k, .int .i64 r.at_, .int .i64 r.old, .int .i64 r.nw, .bool r.ok] 57), maB mb Ov Pv dv ba Tv Kv Gv x, raB ba wv r, raW wv n r, rowE zK 3 Kv (ks), rowE evK 136 Gv es]) ([]) (G 8 (mT 15 [0, 1, 2, 3, 6, 7, 8])) := fun _ => by
    refine hnode _ _ _ _ [(4, [], 7, (mF 15 [5, 9, 10, 11, 12, 13, 14])), (9, [], 7, (mF 15 [4, 5, 10, 11, 12, 13, 14]))] (by kernel_rfl) kz ?_
    refine ⟨?_, ?_⟩
    ·
     refine WD ?_
     exact wk (g8 trivial)
    ·
     refine WD ?_
     exact wk (g9 trivial)
   refine W ?_
   exact wk (g10 trivial)
  ·
   refine W ?_
   exact At.mid2 (Kv) (ks) (by omega) (.cons rfl (.cons rfl .nil)) (List.Sublist.refl _) rfl
 ·
  refine Z ?_
  refine At.cond (.t rfl) (fun c2 => ?_) (fun c2 => ?_)
  ·
   refine W ?_
   refine At.drawK [tt 0, tt 1, tt 2, tt 3, tt 4, tt 5, tt 6, ff 7, ff 8, ff 9, tt 10, tt 11, tt 12, tt 13, tt 14] (by kernel_rfl) (by kernel_rfl) ?_
   refine W ?_
   refine sJ rfl (R.add (.t rfl) .c) ?_
   refine At.callVR rfl rfl rfl (.k rfl (.k rfl .nil)) (.blk (.st (List.mem_append_right _ M2)) (.cons (rN2 (List.mem_append_right _ M3)) .nil)) (fun hg => r_Peek (r := r) hn hN) kI ?_
   refine At.callVR rfl rfl rfl (.k rfl .nil) (.nil) (fun hg => r_Writer) kI ?_
   refine cP rfl rfl rfl (.k rfl .nil) rfl r_OfE (fun _ h => nomatch h) (fun v N1 H1 hR => ?_); obtain ⟨⟨z1, z2, rfl⟩, rfl, rfl⟩ := hR; refine ⟨rfl, kI, ?_⟩
   refine W ?_
   refine cP rfl rfl rfl (.k rfl (.k rfl (.k rfl .nil))) rfl (ma_event (x := x) (Ov := Ov) (Pv := Pv) (dv := dv) (Tv := Tv) (Kv := kv) (Gv := Gv) (es := es) hel) (Rds.all (.blk (.st (List.mem_append_right _ M1)) (.cons (rN2 (List.mem_append_right _ M5)) .nil))) (fun v N1 H1 hR => ?_); obtain ⟨⟨q, rfl, hE⟩, rfl, rfl⟩ := hR; refine ⟨rfl, .all, ?_⟩
   refine Z ?_
   refine At.condD (.t rfl) (fun c3 => ?_) (fun c3 => ?_)
   ·
    obtain ⟨ea, eb, e, hes, hqe⟩ := hE.pos (by simpa using c3); subst hes hqe; have hGp := midP (a := ea) (b := eb) (x := e); refine At.isn (v := Gv) (List.mem_append_right _ M5) hGp (fun hGv hGn => ?_)
    refine At.drawM ([.blk lb (.cells #[.int .i64 r.k, .int .i64 r.at_, .int .i64 r.old, .int .i64 r.nw, .bool r.ok] 57), maB mb Ov Pv dv ba Tv kv Gv x, raB ba wv r, raW wv n r, rowE zK 3 kv (ks2), rowE evK 136 Gv (ea ++ e :: eb)]) ([.blk lb (.cells #[.int .i64 r.k, .int .i64 r.at_, .int .i64 r.old, .int .i64 r.nw, .bool r.ok] 57)]) [tt 0, tt 1, tt 2, tt 4, tt 5, tt 6, tt 7, tt 9, tt 10, tt 11, tt 12, tt 14, tt 15] [tt 3, tt 8, tt 13, ff 16] [tt 17, tt 18, ff 19, tt 20, tt 21, ff 22] (keepOf sl) (keepOf sl) (by kernel_rfl) (by kernel_rfl) ?_
    refine V ?_
    refine At.stage kz ?_
    refine W ?_
    refine cP rfl rfl rfl (.k rfl .nil) rfl r_VersionE (fun _ h => nomatch h) (fun v N1 H1 hR => ?_); obtain ⟨⟨z, rfl⟩, rfl, rfl⟩ := hR; refine ⟨rfl, kz, ?_⟩
    refine At.stage kz ?_
    refine W ?_
    refine At.stFld (k := evK) 10 (e.wAt x.now) [.int .i64 x.now] rfl rfl sz_3 (.t rfl) (.t rfl) rfl rfl (Nat.le_of_ble_eq_true rfl) (.n U5) rfl ⟨kz, ?_⟩
    refine W ?_
    refine At.stFld (k := evK) 11 ((e.wAt x.now).wVer z) [.int .i64 z] rfl rfl sz_3 (.t rfl) (.t rfl) rfl rfl (Nat.le_of_ble_eq_true rfl) (.n U5) rfl ⟨kz, ?_⟩
    refine W ?_
    exact At.finalX0 (N' := [maB mb Ov Pv dv ba Tv kv Gv x, raB ba wv r, raW wv n r, rowE zK 3 kv (ks2), rowE evK 136 Gv (ea ++ ((e.wAt x.now).wVer z) :: eb)]) hds how rfl sl (⟨_, _, _, rfl, rfl, hi, by simp only [List.map_append, List.map_cons]; rfl⟩) _ (.inr rfl)
   ·
    refine W ?_
    exact At.finalX0 (N' := [maB mb Ov Pv dv ba Tv kv Gv x, raB ba wv r, raW wv n r, rowE zK 3 kv (ks2), rowE evK 136 Gv es]) hds how rfl sl (⟨_, _, _, rfl, rfl, hi, rfl⟩) _ (.inr rfl)
  ·
   refine W ?_
   exact At.finalX0 (N' := [maB mb Ov Pv dv ba Tv kv Gv x, raB ba wv r, raW wv n r, rowE zK 3 kv (ks2), rowE evK 136 Gv es]) hds how rfl sl (⟨_, _, _, rfl, rfl, hi, rfl⟩) _ (.inr rfl)
end Go.Proofs.YtbolanigdkgbdaaGreat
namespace Go.Proofs.YtbolanigdkgbdaaGreat
open Go Go.RowKit
set_option linter.unusedVariables false
set_option linter.unusedSectionVars false
set_option maxHeartbeats 1000000
theorem Pick.app1 {a l : Hp} : Pick (a ++ l) a l := by
  have := Pick.app (a := a) (Pick.nil (l := l))
  rwa [List.append_nil] at this
theorem perm_past {B C R : Hp} : (B ++ (C ++ R)).Perm (C ++ (B ++ R)) := by
  rw [← List.append_assoc, ← List.append_assoc]; exact List.perm_append_comm.append_right R
abbrev SCr (dv : Value) (l0 : List Int) (Pv : Value) (ps : List Int) (Ov : Value) (gs : opsRows) : Hp := rdE zK dv l0 :: rdE zK Pv ps :: nest opK Ov gs
abbrev rowT (Tv : Value) (l : List Th) : Ent := rowE thK 116 Tv l
abbrev rowG (Gv : Value) (l : List Evt) : Ent := rowE evK 136 Gv l
abbrev rowZ (Kv : Value) (l : List Int) : Ent := rowE zK 3 Kv l
def evN (e : Evt) : Int × Int := (e.thread, e.index)
theorem ma_stepsO {k n mb ba : Nat} {Ov Pv dv Tv Kv Gv : Value} {x : Ma} {gs : opsRows} {wv : Value} {l0 ps : List Int} {a b : List Th} {ea eb : List Evt} {ev : Evt} {y : Th} {r : Rr} {N : Hp} (hO : OpM k dv l0 y N) (hr : r.okk n k) (hn : n ≤ 1000000) (hk : k ≤ 800000) (hst : 0 ≤ ev.steps ∧ ev.steps ≤ 1000000) :
    FnX Tryz.prog 75 [.pointer (some ⟨mb, 0, none⟩), .int .i64 (a.length : Int), .int .i64 (ea.length : Int)] (SCr dv l0 Pv ps Ov gs)
      (maB mb Ov Pv dv ba Tv Kv Gv x :: rowT Tv (a ++ y :: b) :: rowG Gv (ea ++ ev :: eb) :: raB ba wv r :: raW wv n r :: N)
      (fun v M => ∃ (r2 : Rr) (y2 : Th) (ev2 : Evt) (N2 : Hp), v = .tuple #[] ∧ M = maB mb Ov Pv dv ba Tv Kv Gv x :: rowT Tv (a ++ y2 :: b) :: rowG Gv (ea ++ ev2 :: eb) :: raB ba wv r2 :: raW wv n r2 :: N2 ∧ r2.okk n (k + 1) ∧ y2.next = y.next ∧ y2.scans = y.scans ∧ evN ev2 = evN ev ∧ ev2.steps = ev.steps + 1 ∧ OpM (k + 1) dv l0 y2 N2) := by
  obtain ⟨nx, bz, sc, p, g, s⟩ := y
  rcases hO with ⟨pu, h1, h2⟩ | ⟨h1, bg, h2, h3⟩ | ⟨h1, h2, bs, h3, h4⟩
  · dsimp only at h1; subst h1
    refine (ma_stepsP h2 hr hn hk hst).mono ?_
    rintro v M ⟨r2, bz2, ev2, N2, h3, h4, h5, h6, h7, h8, h9⟩
    exact ⟨r2, _, ev2, N2, h3, h4, h5, rfl, rfl, by unfold evN; rw [h6, h7], h8, h9⟩
  · dsimp only at h1 h2; subst h1 h2
    refine (ma_stepsG h3 hr hn hk hst).mono ?_
    rintro v M ⟨r2, bz2, ev2, N2, h3, h4, h5, h6, h7, h8, h9⟩
    exact ⟨r2, _, ev2, N2, h3, h4, h5, rfl, rfl, by unfold evN; rw [h6, h7], h8, h9⟩
  · dsimp only at h1 h2 h3; subst h1 h2 h3
    refine (ma_stepsS h4 hr hn hk hst).mono ?_
    rintro v M ⟨r2, bz2, ev2, N2, h3, h4, h5, h6, h7, h8, h9⟩
    exact ⟨r2, _, ev2, N2, h3, h4, h5, rfl, rfl, by unfold evN; rw [h6, h7], h8, h9⟩
theorem EvF.some {es : List Evt} {t i q : Int} (h : EvF es t i q) (hm : (t, i) ∈ es.map evN) : ∃ ea eb e, es = ea ++ e :: eb ∧ q = (ea.length : Int) ∧ evN e = (t, i) := by
  cases h with
  | no h =>
    obtain ⟨e, he, h1⟩ := List.mem_map.1 hm
    unfold evN at h1
    simp only [Prod.mk.injEq] at h1
    exact absurd h1 (h e he)
  | yes h1 h2 h3 => exact ⟨_, _, _, h1, rfl, by unfold evN; rw [h2, h3]⟩
structure PkI (k : Nat) (dv : Value) (l0 : List Int) (t : Int) (y : Th) (es : List Evt) (es1 : List Evt) (y1 : Th) (N1 : Hp) : Prop where
  op : OpM k dv l0 y1 N1
  st : ∀ e ∈ es1, 0 ≤ e.steps ∧ e.steps ≤ (k : Int)
  el : es1.length ≤ 800001
  al : (es1.map evN = es.map evN ∧ y1.next = y.next ∧ y1.scans = y.scans) ∨ (y.busy = false ∧ es1.map evN = es.map evN ++ [(t, y.next)] ∧ y1.next = y.next + 1 ∧ (y1.scans = y.scans ∨ y1.scans = y.scans + 1))
  nx : 0 ≤ y1.next ∧ y1.next ≤ 1000
  me : (t, y1.next - 1) ∈ es1.map evN
theorem evKey_N {a b : List Evt} (h : a.map evKey = b.map evKey) : a.map evN = b.map evN := by
  have e : ∀ l : List Evt, l.map evN = (l.map evKey).map (fun z => (z.1, z.2.1)) := fun l => by rw [List.map_map]; rfl
  rw [e, e, h]
theorem evKey_st {a b : List Evt} {P : Int → Prop} (h : a.map evKey = b.map evKey) (hb : ∀ e ∈ b, P e.steps) : ∀ e ∈ a, P e.steps := fun e he => by
  have h1 : evKey e ∈ b.map evKey := by rw [← h]; exact List.mem_map_of_mem he
  obtain ⟨e2, he2, h2⟩ := List.mem_map.1 h1
  have h3 : e2.steps = e.steps := congrArg (fun z : Int × Int × Int => z.2.2) h2
  rw [← h3]; exact hb e2 he2
end Go.Proofs.YtbolanigdkgbdaaGreat
namespace Go.Proofs.YtbolanigdkgbdaaGreat
open Go Go.RowKit
set_option maxRecDepth 10000
set_option linter.unusedVariables false
set_option linter.unnecessarySimpa false
set_option linter.unusedSectionVars false
set_option maxHeartbeats 1000000
theorem fo_85_4 : fieldOff? Tryz.prog 85 4 = some 10 := by kernel_rfl
structure MaP (k n : Nat) (gs : opsRows) (l0 : List Int) (t : Int) (x : Ma) (y : Th) (es : List Evt) (ks : List Int) : Prop where
  th : 1 ≤ x.th ∧ x.th ≤ 8
  cap : 1 ≤ x.cap ∧ x.cap ≤ 16
  wd : 0 ≤ x.wd ∧ x.wd ≤ 1000000
  now : 0 ≤ x.now ∧ x.now ≤ (k : Int)
  sc : 0 ≤ y.scans ∧ y.scans ≤ (k : Int)
  nx : 0 ≤ y.next ∧ y.next ≤ 1000
  el : es.length ≤ k
  kl : ks.length ≤ k
  kk : k ≤ 800000
  st : ∀ e ∈ es, 0 ≤ e.steps ∧ e.steps ≤ (k : Int)
  ol : (opsL gs t).length ≤ 1000
  oo : (0 ≤ y.next ∧ y.next < ((opsL gs t).length : Int)) → OpOk (gE (opsL gs t) y.next)
  l0 : l0.length ≤ 1000000000
theorem pk_go {k n : Nat} {gs : opsRows} {dv : Value} {l0 : List Int} {t : Int} {x : Ma} {y : Th} {es : List Evt} {ks : List Int} {N : Hp} (h : MaP k n gs l0 t x y es ks) (hb : OpM k dv l0 y N ∧ (t, y.next - 1) ∈ es.map evN) : PkI k dv l0 t y es es y N :=
  ⟨hb.1, h.st, by have := h.el; have := h.kk; omega, .inl ⟨rfl, rfl, rfl⟩, h.nx, hb.2⟩
theorem pk_begin {k n : Nat} {gs : opsRows} {dv : Value} {l0 : List Int} {t : Int} {x : Ma} {y y2 : Th} {es : List Evt} {ks : List Int} {N : Hp} {ne : Evt} (h : MaP k n gs l0 t x y es ks) (hbz : y.busy = false) (hny : 0 ≤ y.next ∧ y.next < ((opsL gs t).length : Int)) (hO : OpM k dv l0 y2 N) (h1 : ne.thread = t) (h2 : ne.index = y.next) (h3 : ne.steps = 0) (h4 : y2.next = y.next + 1) (h5 : y2.scans = y.scans ∨ y2.scans = y.scans + 1) : PkI k dv l0 t y es (es ++ [ne]) y2 N := by
  have hm : (es ++ [ne]).map evN = es.map evN ++ [(t, y.next)] := by rw [List.map_append]; simp [evN, h1, h2]
  refine ⟨hO, fun e he => ?_, by have := h.el; have := h.kk; simp only [List.length_append, List.length_cons, List.length_nil]; omega, .inr ⟨hbz, hm, h4, h5⟩, by have := h.ol; omega, ?_⟩
  · rcases List.mem_append.1 he with he | he
    · exact h.st e he
    · rw [List.mem_singleton.1 he, h3]; omega
  · rw [hm, h4, show y.next + 1 - 1 = y.next by omega]; simp
structure PkO (k : Nat) (t : Int) (y : Th) (es es2 : List Evt) (y2 : Th) : Prop where
  st : ∀ e ∈ es2, 0 ≤ e.steps ∧ e.steps ≤ ((k + 1 : Nat) : Int)
  al : (es2.map evN = es.map evN ∧ y2.next = y.next ∧ y2.scans = y.scans) ∨ (y.busy = false ∧ es2.map evN = es.map evN ++ [(t, y.next)] ∧ y2.next = y.next + 1 ∧ (y2.scans = y.scans ∨ y2.scans = y.scans + 1))
  nx : 0 ≤ y2.next ∧ y2.next ≤ 1000
  me : (t, y2.next - 1) ∈ es2.map evN
theorem pk_fin {k : Nat} {dv : Value} {l0 : List Int} {t i : Int} {y y1 y2 : Th} {es ea eb es2 : List Evt} {e1 ev2 : Evt} {N1 : Hp} (h : PkI k dv l0 t y es (ea ++ e1 :: eb) y1 N1) (hek : evN e1 = (t, i)) (hk2 : evN ev2 = evN e1) (hs2 : ev2.steps = e1.steps + 1) (hy1 : y2.next = y1.next) (hy2 : y2.scans = y1.scans) (hes : es2.map evKey = (ea ++ ev2 :: eb).map evKey) : PkO k t y es es2 y2 := by
  have hm : es2.map evN = (ea ++ e1 :: eb).map evN := by rw [evKey_N hes]; simp only [List.map_append, List.map_cons, hk2]
  refine ⟨evKey_st (P := fun z => 0 ≤ z ∧ z ≤ ((k + 1 : Nat) : Int)) hes fun e he => ?_, ?_, by rw [hy1]; exact h.nx, by rw [hm, hy1]; exact h.me⟩
  · rcases List.mem_append.1 he with he | he
    · have := h.st e (List.mem_append_left _ he); omega
    · rcases List.mem_cons.1 he with rfl | he
      · have := h.st e1 (by simp); omega
      · have := h.st e (List.mem_append_right _ (.tail _ he)); omega
  · rw [hm, hy1, hy2]; exact h.al
theorem ma_PickGo {k n : Nat} {mb ba : Nat} {Ov Pv dv Tv Kv Gv : Value} {x : Ma} {gs : opsRows} {wv : Value} {l0 ps ks : List Int} {a b : List Th} {y : Th} {es : List Evt} {r : Rr} {NO NR : Hp} (hgl : gs.length ≤ 1000) (hmi : MaP k n gs l0 (a.length : Int) x y es ks) (hal : a.length < 8) (hov : Fn Tryz.prog 60 [.pointer (some ⟨mb, 0, none⟩), .int .i64 (a.length : Int)] (maB mb Ov Pv dv ba Tv Kv Gv x :: rdE thK Tv (a ++ y :: b) :: nest opK Ov gs) [] (IsV (.bool false))) (hb : y.busy = true → OpM k dv l0 y NO ∧ ((a.length : Int), y.next - 1) ∈ es.map evN) (hny : y.busy = false → 0 ≤ y.next ∧ y.next < ((opsL gs (a.length : Int)).length : Int)) (hr : r.okk n k) (hn : n ≤ 1000000) (hk : k ≤ 800000) : FnX Tryz.prog 42 [.pointer (some ⟨mb, 0, none⟩), .int .i64 (a.length : Int)] (SCr dv l0 Pv ps Ov gs) (maB mb Ov Pv dv ba Tv Kv Gv x :: rowT Tv (a ++ y :: b) :: rowG Gv es :: raB ba wv r :: raW wv n r :: rowZ Kv ks :: (NO ++ NR)) (fun v N => ∃ r2 kv gv ks2 es2 y2 N2, v = .bool true ∧ N = maB mb Ov Pv dv ba Tv kv gv (⟨x.th, x.cap, x.wd, x.ver, x.now + 1, x.idle⟩ : Ma) :: rowT Tv (a ++ y2 :: b) :: rowG gv es2 :: raB ba wv r2 :: raW wv n r2 :: rowZ kv ks2 :: (N2 ++ NR) ∧ r2.okk n (k + 1) ∧ OpM (k + 1) dv l0 y2 N2 ∧ ks2.length ≤ ks.length + 1 ∧ PkO k (a.length : Int) y es es2 y2) := by
 refine FnX.enter Tryz.func42 (by kernel_rfl) rfl (n := 77) rfl rfl (fun w df hds how => ?_)
 have hG : ∀ y ∈ gs, rdE opK y.1 y.2 ∈ SCr dv l0 Pv ps Ov gs := fun y hy => .tail _ (.tail _ (.tail _ ((List.mem_map.2 ⟨y, hy, rfl⟩))))
 have hTp := midP (a := a) (b := b) (x := y)
 refine At.isn (v := Tv) (List.mem_append_right _ M1) hTp (fun hTv hTn => ?_)
 refine W ?_
 refine At.callVR rfl rfl rfl (.k rfl (.k rfl .nil)) (.blk (.st (List.mem_append_right _ M0)) (.cons (rN2 (List.mem_append_right _ M1)) (.ofNest (rS M2) (fun y hy => rS (by simp only [List.mem_append]; exact .inl (hG y hy)))))) (fun hg => hov) .all ?_
 refine Z ?_
 refine At.cut4 (fun (gv : Value) (es1 : List Evt) (y1 : Th) (N1 : Hp) => PkI k dv l0 (a.length : Int) y es es1 y1 N1) (fun (gv : Value) (es1 : List Evt) (y1 : Th) (N1 : Hp) => [(0, true, .pointer (some ⟨mb, 0, none⟩)), (1, true, .int .i64 (a.length : Int))]) (fun (gv : Value) (es1 : List Evt) (y1 : Th) (N1 : Hp) => maB mb Ov Pv dv ba Tv Kv gv x :: rowT Tv (a ++ y1 :: b) :: rowG gv es1 :: raB ba wv r :: raW wv n r :: rowZ Kv ks :: (N1 ++ NR)) (fun (gv : Value) (es1 : List Evt) (y1 : Th) (N1 : Hp) => []) ?_ (fun gv es1 y1 N1 hi => ?_)
 ·
  refine At.cond (.t rfl) (fun c2 => ?_) (fun c2 => ?_)
  ·
   have hbz : y.busy = false := (by simpa using c2)
   refine W ?_
   refine At.fewer (N1 := maB mb Ov Pv dv ba Tv Kv Gv x :: rowT Tv (a ++ y :: b) :: rowG Gv es :: raB ba wv r :: raW wv n r :: rowZ Kv ks :: NR) sl (.refl _) ?_; refine cX rfl rfl rfl (.k rfl (.k rfl .nil)) rfl (.take (.take (.take .nil))) (.cons (rS M0) (.cons (rS M1) (.ofNest (rS M2) (fun y hy => rS (by simp only [List.mem_append]; exact .inl (hG y hy)))))) (ma_begins (k := k) (x := x) (gs := gs) (l0 := l0) (ps := ps) (y := y) (es := es) hgl ⟨hmi.th.1, by have := hmi.th.2; omega⟩ hmi.cap hmi.wd hal (by have := (hny hbz).1; have := (hny hbz).2; omega) hmi.ol (hmi.oo (hny hbz)) (by have := hmi.sc; omega) (by have := hmi.el; omega) hmi.l0) (Aprt.ofPick (.take (.take (.take .nil)))) (fun v B hR => ⟨.all, ?_⟩); obtain ⟨gv, ne, y2, BB, rfl, rfl, hn1, hn2, hn3, hy1, hy2, hy3, hO⟩ := hR; refine At.perm (List.Perm.append_left [_, _, _] (perm_past (B := BB) (C := [_, _, _]) (R := NR))) ?_; refine At.re (N' := maB mb Ov Pv dv ba Tv Kv gv x :: rowT Tv (a ++ y2 :: b) :: rowG gv (es ++ [ne]) :: raB ba wv r :: raW wv n r :: rowZ Kv ks :: (BB ++ NR)) rfl ?_
   refine W ?_
   exact At.mid4 (gv) (es ++ [ne]) (y2) (BB) (pk_begin hmi hbz (hny hbz) hO hn1 hn2 hn3 hy1 hy3) (.cons rfl (.cons rfl .nil)) (List.Sublist.refl _) rfl
  ·
   have hbz : y.busy = true := (by simpa using c2)
   refine W ?_
   exact At.mid4 (Gv) (es) (y) (NO) (pk_go hmi (hb hbz)) (.cons rfl (.cons rfl .nil)) (List.Sublist.refl _) rfl
 ·
  have hmi2 := hi; obtain ⟨hO1, hst1, hel1, hal1, hnx1, hme1⟩ := hi; have hmn := hmi.now
  refine W ?_
  refine cP rfl rfl rfl (.k rfl (.k rfl (.k rfl .nil))) rfl (ma_event (x := x) (Ov := Ov) (Pv := Pv) (dv := dv) (Tv := Tv) (Kv := Kv) (Gv := gv) (es := es1) (by omega)) (Rds.all (.blk (.st (List.mem_append_right _ M0)) (.cons (rN2 (List.mem_append_right _ M2)) .nil))) (fun v N1 H1 hR => ?_); obtain ⟨⟨q, rfl, hE⟩, rfl, rfl⟩ := hR; obtain ⟨ea, eb, e1, hes1, hq, hek⟩ := hE.some hme1; subst hes1 hq; refine ⟨rfl, .all, ?_⟩
  refine cX rfl rfl rfl (.k rfl (.k rfl (.k rfl .nil))) rfl (.take (.take (.take (.take (.take (.skip .app1)))))) (.cons (rS M0) (.cons (rS M1) (.ofNest (rS M2) (fun y hy => rS (by simp only [List.mem_append]; exact .inl (hG y hy)))))) (ma_stepsO (x := x) (ba := ba) (Kv := Kv) (Tv := Tv) (Gv := gv) (a := a) (b := b) hO1 hr hn hk (by have := hst1 e1 (by simp); omega)) (Aprt.ofPick (.take (.take (.take (.take (.take (.skip .app1))))))) (fun v B hR => ⟨.all, ?_⟩); obtain ⟨r2, y2, ev2, N2, rfl, rfl, hr2, hy1, hy2, hk2, hs2, hO2⟩ := hR; refine At.perm (List.Perm.append_left [_, _, _, _, _] List.perm_middle) ?_; refine At.re (N' := maB mb Ov Pv dv ba Tv Kv gv x :: rowT Tv (a ++ y2 :: b) :: rowG gv (ea ++ ev2 :: eb) :: raB ba wv r2 :: raW wv n r2 :: rowZ Kv ks :: (N2 ++ NR)) rfl ?_
  refine Z ?_
  refine At.cut3 (fun (kv : Value) (ks2 : List Int) (es2 : List Evt) => ks2.length ≤ ks.length + 1 ∧ es2.map evKey = (ea ++ ev2 :: eb).map evKey) (fun (kv : Value) (ks2 : List Int) (es2 : List Evt) => [(0, true, .pointer (some ⟨mb, 0, none⟩)), (1, true, .int .i64 (a.length : Int))]) (fun (kv : Value) (ks2 : List Int) (es2 : List Evt) => maB mb Ov Pv dv ba Tv kv gv x :: rowT Tv (a ++ y2 :: b) :: rowG gv es2 :: raB ba wv r2 :: raW wv n r2 :: rowZ kv ks2 :: (N2 ++ NR)) (fun (kv : Value) (ks2 : List Int) (es2 : List Evt) => []) ?_ (fun kv ks2 es2 hi => ?_)
  ·
   refine At.condD (.t rfl) (fun c3 => ?_) (fun c3 => ?_)
   ·
    refine W ?_
    refine cX rfl rfl rfl (.k rfl .nil) rfl (.take (.skip (.take (.take (.take (.take .nil)))))) (.cons (rS M0) (.cons (rS M1) (.ofNest (rS M2) (fun y hy => rS (by simp only [List.mem_append]; exact .inl (hG y hy)))))) ((ma_notes (x := x) (ba := ba) (wv := wv) (Kv := Kv) (Tv := Tv) (Gv := gv) (ks := ks) (es := ea ++ ev2 :: eb) hr2.len hn (by have := hmi.kl; have := hmi.kk; omega) (by have h9 : (ea ++ ev2 :: eb).length = (ea ++ e1 :: eb).length := (by simp only [List.length_append, List.length_cons]); omega)).perm (permOf [_, _, _, _, _] [0, 1, 2, 3, 4] [0, 4, 1, 2, 3] rfl [])) (Aprt.ofPick (.take (.skip (.take (.take (.take (.take .nil))))))) (fun v B hR => ⟨.all, ?_⟩); obtain ⟨kv, ks2, es2, rfl, rfl, hkl2, hes2⟩ := hR; refine At.perm (permOf [_, _, _, _, _, _] [0, 1, 2, 3, 4, 5] [0, 5, 4, 1, 2, 3] rfl (N2 ++ NR)) ?_; refine At.re (N' := maB mb Ov Pv dv ba Tv kv gv x :: rowT Tv (a ++ y2 :: b) :: rowG gv es2 :: raB ba wv r2 :: raW wv n r2 :: rowZ kv ks2 :: (N2 ++ NR)) rfl ?_
    refine W ?_
    exact At.mid3 (kv) (ks2) (es2) ⟨hkl2, hes2⟩ (.cons rfl (.cons rfl .nil)) (List.Sublist.refl _) rfl
   ·
    refine W ?_
    exact At.mid3 (Kv) (ks) (ea ++ ev2 :: eb) ⟨by omega, rfl⟩ (.cons rfl (.cons rfl .nil)) (List.Sublist.refl _) rfl
  ·
   obtain ⟨hi1, hi2⟩ := hi
   refine W ?_
   refine At.st1 rfl rfl sz_3 (.t rfl) (.t rfl) rfl rfl (.n U0) ⟨.all, ?_⟩
   refine W ?_
   exact At.finalX (N' := maB mb Ov Pv dv ba Tv kv gv (⟨x.th, x.cap, x.wd, x.ver, x.now + 1, x.idle⟩ : Ma) :: rowT Tv (a ++ y2 :: b) :: rowG gv es2 :: raB ba wv r2 :: raW wv n r2 :: rowZ kv ks2 :: (N2 ++ NR)) hds how rfl (.t rfl) (List.Sublist.refl _) (⟨r2, kv, gv, ks2, es2, y2, N2, rfl, rfl, hr2, hO2, hi1, pk_fin hmi2 hek hk2 hs2 hy1 hy2 hi2⟩)
theorem ma_PickIdle {mb ba : Nat} {Ov Pv dv Tv Kv Gv : Value} {x : Ma} {gs : opsRows} {l0 ps : List Int} {ts : List Th} {t : Int} (hov : Fn Tryz.prog 60 [.pointer (some ⟨mb, 0, none⟩), .int .i64 t] (maB mb Ov Pv dv ba Tv Kv Gv x :: rdE thK Tv ts :: nest opK Ov gs) [] (IsV (.bool true))) (h1 : 0 ≤ x.now ∧ x.now ≤ 1000000000) (h2 : 0 ≤ x.idle ∧ x.idle ≤ 1000000000) : FnX Tryz.prog 42 [.pointer (some ⟨mb, 0, none⟩), .int .i64 t] (SCr dv l0 Pv ps Ov gs) ([maB mb Ov Pv dv ba Tv Kv Gv x, rowT Tv ts]) (fun v N => v = .bool false ∧ N = [maB mb Ov Pv dv ba Tv Kv Gv (⟨x.th, x.cap, x.wd, x.ver, x.now + 1, x.idle + 1⟩ : Ma), rowT Tv ts]) := by
 refine FnX.enter Tryz.func42 (by kernel_rfl) rfl (n := 77) rfl rfl (fun w df hds how => ?_)
 have hG : ∀ y ∈ gs, rdE opK y.1 y.2 ∈ SCr dv l0 Pv ps Ov gs := fun y hy => .tail _ (.tail _ (.tail _ ((List.mem_map.2 ⟨y, hy, rfl⟩))))
 refine W ?_
 refine At.callVR rfl rfl rfl (.k rfl (.k rfl .nil)) (.blk (.st (List.mem_append_right _ M0)) (.cons (rN2 (List.mem_append_right _ M1)) (.ofNest (rS M2) (fun y hy => rS (by simp only [List.mem_append]; exact .inl (hG y hy)))))) (fun hg => hov) .all ?_
 refine W ?_
 refine At.drawM ([maB mb Ov Pv dv ba Tv Kv Gv x]) ([]) [tt 0, tt 1, tt 2, tt 3, tt 4, tt 7, tt 8, tt 9] [tt 5, tt 6, tt 10] [tt 11, tt 12, tt 13, ff 14, tt 15, tt 16, ff 17] (by (exact keepOf (by (apply List.Sublist.cons; apply List.Sublist.cons; apply List.Sublist.cons; apply List.sublist_append_of_sublist_right; apply List.Sublist.cons_cons; exact List.nil_sublist _)))) (fun _ h => nomatch h) (by kernel_rfl) (by kernel_rfl) ?_
 refine V ?_
 refine At.stage kz ?_
 refine V ?_
 refine At.stage Cl.none ?_
 refine W ?_
 refine At.st1 rfl rfl sz_3 (.t rfl) (.t rfl) rfl rfl (.n U0) ⟨Cl.none, ?_⟩
 refine W ?_
 refine At.st1 rfl rfl sz_3 (.t rfl) (.t rfl) rfl rfl (.n U0) ⟨Cl.none, ?_⟩
 refine W ?_
 exact At.finalX (N' := [maB mb Ov Pv dv ba Tv Kv Gv (⟨x.th, x.cap, x.wd, x.ver, x.now + 1, x.idle + 1⟩ : Ma), rowT Tv ts]) hds how rfl (.t rfl) (List.Sublist.refl _) (⟨rfl, rfl⟩)
end Go.Proofs.YtbolanigdkgbdaaGreat
namespace Go.Proofs.YtbolanigdkgbdaaGreat
open Go Go.RowKit
set_option linter.unusedVariables false
set_option linter.unusedSectionVars false
set_option maxHeartbeats 1000000
structure ThI (k : Nat) (dv : Value) (l0 : List Int) (ej : List (Int × Int)) (i : Int) (y : Th) (N : Hp) : Prop where
  nx : 0 ≤ y.next ∧ y.next ≤ 1000
  sc : 0 ≤ y.scans ∧ y.scans ≤ (k : Int)
  bs : y.busy = true → OpM k dv l0 y N ∧ (i, y.next - 1) ∈ ej
def AllT (k : Nat) (dv : Value) (l0 : List Int) (ej : List (Int × Int)) : Int → List Th → List Hp → Prop
  | _, [], [] => True
  | i, y :: ts, N :: NT => ThI k dv l0 ej i y N ∧ AllT k dv l0 ej (i + 1) ts NT
  | _, _, _ => False
section
variable {k j : Nat} {dv : Value} {l0 : List Int} {ej ej' : List (Int × Int)}
theorem ThI.le {i : Int} {y : Th} {N : Hp} (h : ThI k dv l0 ej i y N) (hj : k ≤ j) (he : ∀ z ∈ ej, z ∈ ej') : ThI j dv l0 ej' i y N :=
  ⟨h.nx, by have := h.sc; omega, fun hb => ⟨(h.bs hb).1.le hj, he _ (h.bs hb).2⟩⟩
theorem AllT.le (hj : k ≤ j) (he : ∀ z ∈ ej, z ∈ ej') : ∀ {ts : List Th} {NT : List Hp} {i : Int}, AllT k dv l0 ej i ts NT → AllT j dv l0 ej' i ts NT
  | [], [], _, _ => trivial
  | _ :: _, _ :: _, _, h => ⟨h.1.le hj he, AllT.le hj he h.2⟩
theorem AllT.split : ∀ {a b : List Th} {y : Th} {NT : List Hp} {i : Int}, AllT k dv l0 ej i (a ++ y :: b) NT → ∃ NA Ny NB, NT = NA ++ Ny :: NB ∧ AllT k dv l0 ej i a NA ∧ ThI k dv l0 ej (i + (a.length : Int)) y Ny ∧ AllT k dv l0 ej (i + (a.length : Int) + 1) b NB
  | [], b, y, N :: NT, i, h => ⟨[], N, NT, rfl, trivial, by simpa using h.1, by simpa using h.2⟩
  | z :: a, b, y, N :: NT, i, h => by
    obtain ⟨NA, Ny, NB, h1, h2, h3, h4⟩ := AllT.split (a := a) h.2
    refine ⟨N :: NA, Ny, NB, by rw [h1]; rfl, ⟨h.1, h2⟩, ?_, ?_⟩
    · have e : i + ((z :: a).length : Int) = i + 1 + (a.length : Int) := by simp only [List.length_cons]; omega
      rw [e]; exact h3
    · have e : i + ((z :: a).length : Int) + 1 = i + 1 + (a.length : Int) + 1 := by simp only [List.length_cons]; omega
      rw [e]; exact h4
theorem AllT.join : ∀ {a b : List Th} {y : Th} {NA NB : List Hp} {Ny : Hp} {i : Int}, AllT k dv l0 ej i a NA → ThI k dv l0 ej (i + (a.length : Int)) y Ny → AllT k dv l0 ej (i + (a.length : Int) + 1) b NB → AllT k dv l0 ej i (a ++ y :: b) (NA ++ Ny :: NB)
  | [], b, y, [], NB, Ny, i, h1, h2, h3 => ⟨by simpa using h2, by simpa using h3⟩
  | z :: a, b, y, N :: NA, NB, Ny, i, h1, h2, h3 => by
    refine ⟨h1.1, AllT.join h1.2 ?_ ?_⟩
    · have e : i + 1 + (a.length : Int) = i + ((z :: a).length : Int) := by simp only [List.length_cons]; omega
      rw [e]; exact h2
    · have e : i + 1 + (a.length : Int) + 1 = i + ((z :: a).length : Int) + 1 := by simp only [List.length_cons]; omega
      rw [e]; exact h3
theorem AllT.new : ∀ (m : Nat) (i : Int), AllT k dv l0 ej i (List.replicate m (default : Th)) (List.replicate m [])
  | 0, _ => trivial
  | m + 1, i => ⟨⟨by show (0 : Int) ≤ 0 ∧ (0 : Int) ≤ 1000; decide, by show (0 : Int) ≤ 0 ∧ (0 : Int) ≤ (k : Int); omega, fun h => nomatch h⟩, AllT.new m (i + 1)⟩
end
structure ScG (gs : opsRows) (l0 : List Int) (n : Nat) : Prop where
  gl : gs.length ≤ 1000
  ol : ∀ y ∈ gs, y.2.length ≤ 1000
  oo : ∀ y ∈ gs, ∀ o ∈ y.2, OpOk o
  l0 : l0.length ≤ 1000000000
  nn : n ≤ 1000000
theorem opsL_len {gs : opsRows} {t : Int} (h : ∀ y ∈ gs, y.2.length ≤ 1000) : (opsL gs t).length ≤ 1000 := by
  unfold opsL; split
  · rename_i h1; exact h _ (gE_mem' h1)
  · exact Nat.zero_le _
theorem opsL_ok {gs : opsRows} {t j : Int} (h : ∀ y ∈ gs, ∀ o ∈ y.2, OpOk o) (hj : 0 ≤ j ∧ j < ((opsL gs t).length : Int)) : OpOk (gE (opsL gs t) j) := by
  have h1 := gE_mem' hj
  revert h1
  generalize gE (opsL gs t) j = o
  unfold opsL; split
  · rename_i h1; exact fun h2 => h _ (gE_mem' h1) o h2
  · intro h2; cases h2
structure MaG (k n : Nat) (dv : Value) (l0 : List Int) (x : Ma) (r : Rr) (ts : List Th) (ks : List Int) (es : List Evt) (NT : List Hp) : Prop where
  okk : r.okk n k
  th : 1 ≤ x.th ∧ x.th ≤ 8
  tl : (ts.length : Int) = x.th
  cap : 1 ≤ x.cap ∧ x.cap ≤ 16
  wd : 0 ≤ x.wd ∧ x.wd ≤ 1000000
  now : 0 ≤ x.now ∧ x.now ≤ (k : Int)
  idle : 0 ≤ x.idle ∧ x.idle ≤ (k : Int)
  kl : ks.length ≤ k
  el : es.length ≤ k
  st : ∀ e ∈ es, 0 ≤ e.steps ∧ e.steps ≤ (k : Int)
  thd : AllT k dv l0 (es.map evN) 0 ts NT
def MaM (k n mb ba : Nat) (Ov Pv dv wv : Value) (l0 : List Int) (N : Hp) : Prop := ∃ (x : Ma) (Tv Kv Gv : Value) (r : Rr) (ts : List Th) (ks : List Int) (es : List Evt) (NT : List Hp),
  N = maB mb Ov Pv dv ba Tv Kv Gv x :: rowT Tv ts :: rowG Gv es :: raB ba wv r :: raW wv n r :: rowZ Kv ks :: NT.flatten ∧ MaG k n dv l0 x r ts ks es NT
abbrev P0 (b : Nat) : Value := .pointer (some ⟨b, 0, none⟩)
theorem evN_len {a b : List Evt} {l : List (Int × Int)} (h : a.map evN = b.map evN ++ l) : a.length = b.length + l.length := by
  have := congrArg List.length h
  rwa [List.length_map, List.length_append, List.length_map] at this
theorem ma_Pick {k n mb ba : Nat} {Ov Pv dv wv : Value} {gs : opsRows} {l0 ps : List Int} {N : Hp} {t : Int} (hM : MaM k n mb ba Ov Pv dv wv l0 N) (hS : ScG gs l0 n) (hk : k ≤ 800000) :
    FnX Tryz.prog 42 [P0 mb, .int .i64 t] (SCr dv l0 Pv ps Ov gs) N (fun v N' => (∃ e, v = .bool e) ∧ MaM (k + 1) n mb ba Ov Pv dv wv l0 N') := by
  obtain ⟨x, Tv, Kv, Gv, r, ts, ks, es, NT, rfl, hG⟩ := hM
  have hth := hG.th; have htl := hG.tl; have hnow := hG.now; have hidle := hG.idle; have hkl := hG.kl; have hel := hG.el
  have hk1 : k ≤ k + 1 := Nat.le_succ k
  have hst1 : ∀ e ∈ es, 0 ≤ e.steps ∧ e.steps ≤ ((k + 1 : Nat) : Int) := fun e he => by have := hG.st e he; omega
  -- a pick of nobody's
  have idle : (Fn Tryz.prog 60 [P0 mb, .int .i64 t] (maB mb Ov Pv dv ba Tv Kv Gv x :: rdE thK Tv ts :: nest opK Ov gs) [] (IsV (.bool true))) → FnX Tryz.prog 42 [P0 mb, .int .i64 t] (SCr dv l0 Pv ps Ov gs) (maB mb Ov Pv dv ba Tv Kv Gv x :: rowT Tv ts :: rowG Gv es :: raB ba wv r :: raW wv n r :: rowZ Kv ks :: NT.flatten) (fun v N' => (∃ e, v = .bool e) ∧ MaM (k + 1) n mb ba Ov Pv dv wv l0 N') := fun hov => by
    refine FnX.stepS (T := rowG Gv es :: raB ba wv r :: raW wv n r :: rowZ Kv ks :: NT.flatten) (ma_PickIdle (ps := ps) hov (by omega) (by omega)) (.refl _) ?_
    rintro v B ⟨rfl, rfl⟩
    refine ⟨_, _, .refl _, .refl _, ⟨false, rfl⟩, _, Tv, Kv, Gv, r, ts, ks, es, NT, rfl, ?_⟩
    exact ⟨hG.okk.up, hG.th, hG.tl, hG.cap, hG.wd, by show 0 ≤ x.now + 1 ∧ x.now + 1 ≤ ((k + 1 : Nat) : Int); omega, by show 0 ≤ x.idle + 1 ∧ x.idle + 1 ≤ ((k + 1 : Nat) : Int); omega, by omega, by omega, hst1, hG.thd.le hk1 fun _ h => h⟩
  by_cases h0 : t < 0
  · exact idle (ov_Neg hS.gl (by omega) h0)
  by_cases h1 : (ts.length : Int) ≤ t
  · exact idle (ov_Big hS.gl (by omega) ⟨by omega, h1⟩)
  obtain ⟨a, y, b, rfl, rfl⟩ := splitAt ts t ⟨by omega, by omega⟩
  have hm := gE_mid (a := a) (b := b) (x := y)
  have hlen : a.length < 8 := by
    have : (a ++ y :: b).length = a.length + (b.length + 1) := by simp
    omega
  by_cases hb : y.busy = false ∧ ((opsL gs (a.length : Int)).length : Int) ≤ y.next
  · refine idle ?_
    have := ov_Idle (x := x) (mb := mb) (ba := ba) (Ov := Ov) (Pv := Pv) (dv := dv) (Tv := Tv) (Kv := Kv) (Gv := Gv) (gs := gs) (ts := a ++ y :: b) (t := (a.length : Int)) hS.gl (by omega) (by omega) (by rw [hm]; exact hb.1)
    rw [hm, decide_eq_true hb.2] at this
    exact this
  · obtain ⟨NA, Ny, NB, rfl, hA, hI, hB⟩ := hG.thd.split
    have hI0 : ThI k dv l0 (es.map evN) (a.length : Int) y Ny := by simpa using hI
    have hov : Fn Tryz.prog 60 [P0 mb, .int .i64 (a.length : Int)] (maB mb Ov Pv dv ba Tv Kv Gv x :: rdE thK Tv (a ++ y :: b) :: nest opK Ov gs) [] (IsV (.bool false)) := by
      cases hbz : y.busy with
      | true => exact ov_Busy hS.gl (by omega) (by omega) (by rw [hm]; exact hbz)
      | false =>
        have := ov_Idle (x := x) (mb := mb) (ba := ba) (Ov := Ov) (Pv := Pv) (dv := dv) (Tv := Tv) (Kv := Kv) (Gv := Gv) (gs := gs) (ts := a ++ y :: b) (t := (a.length : Int)) hS.gl (by omega) (by omega) (by rw [hm]; exact hbz)
        rw [hm, decide_eq_false fun h => hb ⟨hbz, h⟩] at this
        exact this
    have hmi : MaP k n gs l0 (a.length : Int) x y es ks := ⟨hG.th, hG.cap, hG.wd, hG.now, hI0.sc, hI0.nx, hG.el, hG.kl, hk, hG.st, opsL_len hS.ol, opsL_ok hS.oo, hS.l0⟩
    have hfl : (NA ++ Ny :: NB).flatten = NA.flatten ++ (Ny ++ NB.flatten) := by simp
    rw [hfl]
    refine FnX.step0 (ma_PickGo (NO := Ny) (NR := NA.flatten ++ NB.flatten) (ps := ps) hS.gl hmi hlen hov hI0.bs (fun hbz => ⟨hI0.nx.1, by
      rcases Int.lt_or_le y.next ((opsL gs (a.length : Int)).length : Int) with h | h
      · exact h
      · exact absurd ⟨hbz, h⟩ hb⟩) hG.okk hS.nn hk) (List.Perm.append_left [_, _, _, _, _, _] perm_past.symm) ?_
    rintro v B ⟨r2, kv, gv, ks2, es2, y2, N2, rfl, rfl, hr2, hO2, hk2, hP⟩
    have hsub : ∀ z ∈ es.map evN, z ∈ es2.map evN := fun z hz => by
      rcases hP.al with h | h
      · rw [h.1]; exact hz
      · rw [h.2.1]; exact List.mem_append_left _ hz
    have hel2 : es2.length ≤ k + 1 := by
      rcases hP.al with h | h
      · have := congrArg List.length h.1; rw [List.length_map, List.length_map] at this; omega
      · have := evN_len h.2.1; simp only [List.length_cons, List.length_nil] at this; omega
    have hsc2 : 0 ≤ y2.scans ∧ y2.scans ≤ ((k + 1 : Nat) : Int) := by
      have := hI0.sc
      rcases hP.al with h | h
      · rw [h.2.2]; omega
      · rcases h.2.2.2 with h | h <;> rw [h] <;> omega
    refine ⟨_, _, .refl _, List.Perm.append_left [_, _, _, _, _, _] perm_past, ⟨true, rfl⟩, ⟨x.th, x.cap, x.wd, x.ver, x.now + 1, x.idle⟩, Tv, kv, gv, r2, a ++ y2 :: b, ks2, es2, NA ++ N2 :: NB, by rw [show (NA ++ N2 :: NB).flatten = NA.flatten ++ (N2 ++ NB.flatten) by simp]; rfl, ?_⟩
    refine ⟨hr2, hG.th, by rw [← hG.tl]; simp, hG.cap, hG.wd, by show 0 ≤ x.now + 1 ∧ x.now + 1 ≤ ((k + 1 : Nat) : Int); omega, by show 0 ≤ x.idle ∧ x.idle ≤ ((k + 1 : Nat) : Int); omega, by omega, hel2, hP.st, ?_⟩
    refine (hA.le hk1 hsub).join ?_ (hB.le hk1 hsub)
    have : ThI (k + 1) dv l0 (es2.map evN) (a.length : Int) y2 N2 := ⟨hP.nx, hsc2, fun _ => ⟨hO2, hP.me⟩⟩
    simpa using this
end Go.Proofs.YtbolanigdkgbdaaGreat
namespace Go.Proofs.YtbolanigdkgbdaaGreat
open Go Go.RowKit
set_option linter.unusedVariables false
set_option linter.unusedSectionVars false
set_option maxHeartbeats 1000000
theorem ma_NewS {th ver : Int} {cap n : Nat} {Ov Pv dv : Value} {gs : opsRows} {ps l0 : List Int} (hgb : gs.length ≤ 1000000000) (hpb : ps.length ≤ 1000000000) (hob : ∀ y ∈ gs, y.2.length ≤ 1000000000) :
    FnX Tryz.prog 40 [.agg #[.int .i64 th, .int .i64 (cap : Int), .int .i64 (n : Int), .int .i64 ver, Ov, Pv, dv]] (SCr dv l0 Pv ps Ov gs) []
      (fun v N => ∃ (po : Option Addr) (e : Int), v = .tuple #[.pointer po, .int .i64 e] ∧ (¬ e = 0 ∨ (e = 0 ∧ ScOk th cap n ver gs ps ∧ ∃ mb ba wv, po = some ⟨mb, 0, none⟩ ∧ MaM 0 n mb ba Ov Pv dv wv l0 N))) := by
  refine FnX.step0 (FnX.nilRow evK 136 (FnX.nilRow zK 3 (ma_New (th := th) (ver := ver) (cap := cap) (n := n) (Ov := Ov) (Pv := Pv) (dv := dv) (gs := gs) (ps := ps) (l0 := l0) hgb hpb hob))) (.refl _) ?_
  rintro v B ⟨N1, ⟨N0, h, rfl⟩, rfl⟩
  rcases h with ⟨e, rfl, he, rfl⟩ | ⟨hok, mb, ba, wv, tv, rfl, rfl⟩
  · exact ⟨_, _, .refl _, .refl _, none, e, rfl, .inl he⟩
  · have h1 := hok.conf.h_th; have h2 := hok.conf.h_cap; have h3 := hok.conf.h_wd
    refine ⟨_, _, .refl _, permOf [_, _, _, _, _, _] [0, 1, 2, 3, 4, 5] [2, 3, 0, 4, 5, 1] rfl [], some ⟨mb, 0, none⟩, 0, rfl, .inr ⟨rfl, hok, mb, ba, wv, rfl, ⟨th, cap, (n : Int), ver, 0, 0⟩, tv, .slice none 0 0, .slice none 0 0, rMk n th (cap : Int), List.replicate th.toNat default, [], [], List.replicate th.toNat [], ?_, ?_⟩⟩
    · rw [List.flatten_replicate_nil]; rfl
    · exact ⟨rMk_okk hok.conf, h1, by rw [List.length_replicate]; show ((th.toNat : Nat) : Int) = th; omega, by show 1 ≤ cap ∧ cap ≤ 16; omega, by show 0 ≤ (n : Int) ∧ (n : Int) ≤ 1000000; omega, by show (0 : Int) ≤ 0 ∧ (0 : Int) ≤ ((0 : Nat) : Int); decide, by show (0 : Int) ≤ 0 ∧ (0 : Int) ≤ ((0 : Nat) : Int); decide, Nat.le_refl _, Nat.le_refl _, (fun e he => nomatch he), AllT.new _ _⟩
theorem ScOk.g {th cap wd ver : Int} {gs : opsRows} {ps l0 : List Int} {n : Nat} (h : ScOk th cap wd ver gs ps) (hl : l0.length ≤ 1000000000) (hn : wd = (n : Int)) : ScG gs l0 n :=
  ⟨by have := h.gl; have := h.conf.h_th; omega, h.ol, h.oo, hl, by have := h.conf.h_wd; omega⟩
end Go.Proofs.YtbolanigdkgbdaaGreat
namespace Go.Proofs.YtbolanigdkgbdaaGreat
open Go Go.RowKit
set_option maxRecDepth 10000
set_option linter.unusedVariables false
set_option linter.unnecessarySimpa false
set_option linter.unusedSectionVars false
set_option maxHeartbeats 1000000
theorem h_Left {th ver : Int} {cap n : Nat} {Ov Pv dv : Value} {gs : opsRows} {ps l0 : List Int} (hgb : gs.length ≤ 1000000000) (hpb : ps.length ≤ 1000000000) (hob : ∀ y ∈ gs, y.2.length ≤ 1000000000) (hl0 : l0.length ≤ 1000000000) : FnX Tryz.prog 10 [.agg #[.int .i64 th, .int .i64 (cap : Int), .int .i64 (n : Int), .int .i64 ver, Ov, Pv, dv]] (SCr dv l0 Pv ps Ov gs) ([]) (fun v N => ∃ ba wv r m, v = .pointer (some ⟨ba, 0, none⟩) ∧ N = [raB ba wv r, raW wv m r] ∧ Rr.okk m 800000 r ∧ 1 ≤ m ∧ m ≤ 20000) := by
 refine FnX.enter Tryz.func10 (by kernel_rfl) rfl (n := 32) rfl rfl (fun w df hds how => ?_)
 have hG : ∀ y ∈ gs, rdE opK y.1 y.2 ∈ SCr dv l0 Pv ps Ov gs := fun y hy => .tail _ (.tail _ (.tail _ ((List.mem_map.2 ⟨y, hy, rfl⟩))))
 refine W ?_
 refine At.box rfl rfl rfl (.t rfl) (fun b1 hb1 => ⟨.all, ?_⟩)
 refine W ?_
 refine cX rfl rfl rfl (.k rfl .nil) rfl .nil (.cons (rS M0) (.cons (rS M1) (.ofNest (rS M2) (fun y hy => rS (by simp only [List.mem_append]; exact .inl (hG y hy)))))) (ma_NewS (th := th) (ver := ver) (cap := cap) (n := n) hgb hpb hob) (Aprt.ofPick .nil) (fun v B hR => ⟨.all, ?_⟩); obtain ⟨po, e, rfl, hcase⟩ := hR
 refine Z ?_
 refine At.condN (.t rfl) (fun c1 => ?_) (fun c1 => ?_)
 ·
  refine W ?_
  refine cP rfl rfl rfl (.kc .nil) rfl (r_NewArena (n := 1) (by decide)) (fun _ h => nomatch h) (fun v N1 H1 hR => ?_); obtain ⟨⟨ba, wv, rfl, rfl⟩, rfl⟩ := hR; refine ⟨rfl, .all, ?_⟩
  refine W ?_
  exact At.finalX (N' := [raB ba wv (rN0 1), raW wv 1 (rN0 1)]) hds how rfl (.t rfl) sl (⟨ba, wv, _, 1, rfl, rfl, rN0_okk.le (by omega), by decide, by decide⟩)
 ·
  obtain ⟨he, hok, mb, ba, wv, rfl, hM0⟩ := hcase.resolve_left (fun h => h (by omega)); have hSg : ScG gs l0 n := hok.g hl0 rfl; have hth := hok.conf.h_th; have hpl := hok.pl; have hn0 := hok.conf.h_wd
  refine W ?_
  refine At.perm List.perm_append_comm ?_
  refine At.re (N' := .blk b1 (.cells #[.int .i64 th, .int .i64 (cap : Int), .int .i64 (n : Int), .int .i64 ver, Ov, Pv, dv] 27) :: B) rfl ?_
  refine At.loop2 (fun (i : Nat) (NN : Hp) => i ≤ ps.length ∧ MaM (i) n mb ba Ov Pv dv wv l0 NN) (fun (i : Nat) (NN : Hp) => ps.length - i) (fun (i : Nat) (NN : Hp) => [(1, true, .pointer (some ⟨b1, 0, none⟩)), (3, true, .pointer (some ⟨mb, 0, none⟩)), (5, true, .int .i64 i)]) (fun (i : Nat) (NN : Hp) => .blk b1 (.cells #[.int .i64 th, .int .i64 (cap : Int), .int .i64 (n : Int), .int .i64 ver, Ov, Pv, dv] 27) :: NN) (fun (i : Nat) (NN : Hp) => []) (0) (B) ⟨Nat.zero_le _, hM0⟩ (.cons rfl (.cons rfl (.cons rfl .nil))) (List.Sublist.refl _) rfl (fun i NN hi => ?_)
  obtain ⟨hi1, hM⟩ := hi
  refine Z ?_
  refine At.condD (.t rfl) (fun c2 => ?_) (fun c2 => ?_)
  ·
   refine W ?_
   refine cX rfl rfl rfl (.k rfl (.k rfl .nil)) rfl (.skip .all) (.cons (rS M0) (.cons (rS M1) (.ofNest (rS M2) (fun y hy => rS (by simp only [List.mem_append]; exact .inl (hG y hy)))))) (ma_Pick (ps := ps) (gs := gs) hM hSg (by omega)) (Aprt.ofPick (.skip .all)) (fun v B hR => ⟨.all, ?_⟩); obtain ⟨⟨pe, rfl⟩, hM2⟩ := hR; refine At.perm List.perm_append_comm ?_; refine At.re (N' := .blk b1 (.cells #[.int .i64 th, .int .i64 (cap : Int), .int .i64 (n : Int), .int .i64 ver, Ov, Pv, dv] 27) :: B) rfl ?_
   refine W ?_
   exact At.again2 (i + 1) (B) ⟨by omega, hM2⟩ (by omega) (.cons rfl (.cons rfl (.cons rfl .nil))) (List.Sublist.refl _) rfl
  ·
   refine W ?_
   obtain ⟨x, Tv, Kv, Gv, r, ts, ks, es, NT, rfl, hG⟩ := hM
   refine W ?_
   exact At.finalX (N' := [raB ba wv r, raW wv n r]) hds how rfl (.t rfl) sl (⟨ba, wv, r, n, rfl, rfl, hG.okk.le (by omega), by omega, by omega⟩)
end Go.Proofs.YtbolanigdkgbdaaGreat
namespace Go.Proofs.YtbolanigdkgbdaaGreat
open Go Go.RowKit
set_option maxRecDepth 10000
set_option linter.unusedVariables false
set_option linter.unnecessarySimpa false
set_option linter.unusedSectionVars false
set_option maxHeartbeats 1000000
structure WideNo (th cap wd ver : Int) (gs : opsRows) (ps l0 : List Int) : Prop where
  ok : ScOk th cap wd ver gs ps
  gl : gs.length ≤ 1000
  pl : ps.length ≤ 1000000
  dl : l0.length ≤ 1000000
  ol : ∀ y ∈ gs, y.2.length ≤ 1000
abbrev rFr (r : Rr) : Rr := ⟨r.w, 0, 0, 0, 0, 0, false⟩
theorem rFr_okk {n k : Nat} {r : Rr} (h : r.okk n k) : (rFr r).okk n k := ⟨h.len, h.mid, by show (0 : Int) ≤ 0 ∧ (0 : Int) ≤ (k : Int); omega⟩
theorem nd_len : ∀ (n : Nat) (l : List Int), l.Nodup → (∀ y ∈ l, 0 ≤ y ∧ y < (n : Int)) → l.length ≤ n
  | 0, l, _, h => by
    cases l with
    | nil => exact Nat.le_refl _
    | cons y l => have := h y (.head _); omega
  | n + 1, l, hd, h => by
    have h1 := nd_len n (l.erase (n : Int)) (hd.erase _) fun y hy => by
      have h2 := (List.Nodup.mem_erase_iff hd).1 hy
      have h3 := h y h2.2
      have := h2.1
      omega
    have h2 := List.length_erase (l := l) (a := (n : Int))
    split at h2 <;> omega
theorem nd_more {n : Nat} {l : List Int} {z : Int} (h1 : l.Nodup) (h2 : ∀ y ∈ l, 0 ≤ y ∧ y ≤ (n : Int)) (hz : 0 ≤ z ∧ z ≤ (n : Int)) (hn : z ∉ l) : (l ++ [z]).Nodup ∧ (∀ y ∈ l ++ [z], 0 ≤ y ∧ y ≤ (n : Int)) ∧ (l ++ [z]).length ≤ n + 1 := by
  have h3 : (l ++ [z]).Nodup := List.nodup_append.2 ⟨h1, by simp, fun a ha b hb e => by
    rw [List.mem_singleton.1 hb] at e; exact hn (e ▸ ha)⟩
  have h4 : ∀ y ∈ l ++ [z], 0 ≤ y ∧ y ≤ (n : Int) := fun y hy => by
    rcases List.mem_append.1 hy with hy | hy
    · exact h2 y hy
    · rw [List.mem_singleton.1 hy]; exact hz
  exact ⟨h3, h4, nd_len (n + 1) _ h3 fun y hy => by have := h4 y hy; omega⟩
theorem h_Fresh {ba n : Nat} {wv : Value} {r : Rr} (hn : r.w.length = n) (hN : n ≤ 1000000) : Fn Tryz.prog 9 [.pointer (some ⟨ba, 0, none⟩)] ([raB ba wv r, raR wv n r]) ([]) (fun v N H => (∃ b2 wv2, v = .pointer (some ⟨b2, 0, none⟩) ∧ N = [raB b2 wv2 (rFr r), raW wv2 n (rFr r)]) ∧ H = []) := by
 refine Fn.enter Tryz.func9 (by kernel_rfl) rfl (n := 10) rfl rfl (fun w => ?_)
 subst hn
 refine W ?_
 (refine At.nilRow zK 3 ?_; refine At.app (k := zK) rfl rfl rfl Tryz.underlying25 et_3 .c (.t rfl) (fun _ => by (exact U0)) (rS M1) (by (simp <;> omega)) (fun v1 => ⟨.all, ?_⟩))
 refine At.rowOne (v := v1) (M2) (fun h1v => ?_)
 refine eA rfl (R.build (cs := [v1, .int .i64 0, .int .i64 0, .int .i64 0, .int .i64 0, .int .i64 0, .bool false]) bt_59 (.k rfl .nil) (.cons (c := [_]) (cells_one h1v) .nil) rfl) ?_
 refine At.box rfl rfl rfl (.t rfl) (fun b1 hb1 => ⟨.all, ?_⟩)
 refine W ?_
 refine At.re (N' := [raB b1 v1 (rFr r), raW v1 r.w.length (rFr r)]) rfl ?_
 exact At.final (N' := [raB b1 v1 (rFr r), raW v1 r.w.length (rFr r)]) rfl (.t rfl) (List.Sublist.refl _) (⟨⟨b1, v1, rfl, rfl⟩, rfl⟩)
theorem r_has {V : Value} {l : List Int} {z : Int} (hL : l.length ≤ 1000000000) : Fn Tryz.prog 81 [V, .int .i64 z] ([rdE zK V l]) ([]) (IsV (.bool (decide (z ∈ l)))) := by
 refine Fn.enter Tryz.func81 (by kernel_rfl) rfl (n := 18) rfl rfl (fun w => ?_)
 refine W ?_
 refine At.loop1 (fun (i : Nat) => i ≤ l.length ∧ ∀ j : Nat, j < i → gE l (j : Int) ≠ z) (fun (i : Nat) => l.length - i) (fun (i : Nat) => [(0, true, V), (1, true, .int .i64 z), (5, true, .int .i64 i)]) (fun (i : Nat) => []) (fun (i : Nat) => []) (0) ⟨Nat.zero_le _, fun j hj => absurd hj (Nat.not_lt_zero _)⟩ (.cons rfl (.cons rfl (.cons rfl .nil))) (List.Sublist.refl _) rfl (fun i hi => ?_)
 obtain ⟨hi1, hi2⟩ := hi
 refine Z ?_
 refine At.condD (.t rfl) (fun c1 => ?_) (fun c1 => ?_)
 ·
  refine Z ?_
  refine At.condD (.t rfl) (fun c2 => ?_) (fun c2 => ?_)
  ·
   refine W ?_
   exact fT rfl (.t rfl) (⟨congrArg Value.bool (decide_eq_true (by rw [← (by simpa using c2 : gE l (i : Int) = z)]; exact gE_mem' (by omega))).symm, rfl, rfl⟩)
  ·
   refine W ?_
   exact At.again1 (i + 1) ⟨by omega, fun j hj => (by rcases Nat.lt_succ_iff_lt_or_eq.1 hj with h | h; exact hi2 j h; subst h; simpa using c2)⟩ (by omega) (.cons rfl (.cons rfl (.cons rfl .nil))) (List.Sublist.refl _) rfl
 ·
  refine W ?_
  exact fT rfl (.t rfl) (⟨congrArg Value.bool (decide_eq_false (fun hm => by obtain ⟨j, hj, hq⟩ := List.getElem_of_mem hm; exact hi2 j (by omega) (by rw [← hq]; simp [gE, hj]))).symm, rfl, rfl⟩)
theorem r_Fits {ba n : Nat} {wv : Value} {r : Rr} {th cap wd ver z : Int} (hn : r.w.length = n) (hN : n ≤ 1000000) (hc : 0 ≤ cap ∧ cap ≤ 1000000) : Fn Tryz.prog 80 [.agg #[.int .i64 th, .int .i64 cap, .int .i64 wd, .int .i64 ver], .pointer (some ⟨ba, 0, none⟩), .int .i64 z] ([raB ba wv r, raR wv n r]) ([]) (IsV (.bool (decide (0 ≤ z) && decide (z ≤ (n : Int) - (7 + 3 * cap))))) := by
 refine Fn.enter Tryz.func80 (by kernel_rfl) rfl (n := 21) rfl rfl (fun w => ?_)
 refine W ?_
 refine At.box rfl rfl rfl (.t rfl) (fun b1 hb1 => ⟨.all, ?_⟩)
 refine W ?_
 refine At.drawK [tt 0, tt 1, tt 2, tt 3, tt 4, tt 5, tt 6, tt 7, tt 8, tt 9, ff 10, tt 11, tt 12, tt 13, tt 14] (by kernel_rfl) (by kernel_rfl) ?_
 refine Z ?_
 refine At.callVR rfl rfl rfl (.cons (.s rfl) .nil) .nil (fun hg => r_Size (by omega)) kI ?_
 refine Z ?_
 exact fT rfl (.t rfl) (⟨rfl, rfl, rfl⟩)
theorem r_All {ba n : Nat} {wv : Value} {r : Rr} {th cap wd ver : Int} (hn : r.w.length = n) (hN : n ≤ 1000000) (hc : 0 ≤ cap ∧ cap ≤ 1000000) (ht : 0 ≤ th ∧ th ≤ 1000000) : Fn Tryz.prog 44 [.agg #[.int .i64 th, .int .i64 cap, .int .i64 wd, .int .i64 ver], .pointer (some ⟨ba, 0, none⟩)] ([raB ba wv r, raR wv n r]) ([]) (fun v N H => (∃ l, N = [rowE zK 3 v l] ∧ (∀ y ∈ l, 0 ≤ y ∧ y ≤ 1000000) ∧ l.length ≤ 1000001) ∧ H = []) := by
 refine Fn.enter Tryz.func44 (by kernel_rfl) rfl (n := 37) rfl rfl (fun w => ?_)
 refine W ?_
 refine At.box rfl rfl rfl (.t rfl) (fun b1 hb1 => ⟨.all, ?_⟩)
 refine W ?_
 refine At.callVR rfl rfl rfl (.k rfl .nil) (.nil) (fun hg => r_Head ht) .all ?_
 refine W ?_
 refine At.callVR rfl rfl rfl (.k rfl (.k rfl .nil)) (.blk (.st (M0)) (.cons (rS M1) .nil)) (fun hg => r_Peek (r := r) hn hN) .all ?_
 refine At.callVR rfl rfl rfl (.k rfl .nil) (.nil) (fun hg => r_At) .all ?_
 refine W ?_
 refine At.nilRow zK 3 ?_
 refine At.loop3 (fun (l : List Int) (V : Value) (z : Int) => l.Nodup ∧ (∀ y ∈ l, 0 ≤ y ∧ y ≤ (n : Int)) ∧ l.length ≤ n + 1) (fun (l : List Int) (V : Value) (z : Int) => n + 1 - l.length) (fun (l : List Int) (V : Value) (z : Int) => [(1, true, .pointer (some ⟨ba, 0, none⟩)), (2, true, .pointer (some ⟨b1, 0, none⟩)), (5, true, V), (6, true, .int .i64 z)]) (fun (l : List Int) (V : Value) (z : Int) => [rowE zK 3 V l, .blk b1 (.cells #[.int .i64 th, .int .i64 cap, .int .i64 wd, .int .i64 ver] 23)]) (fun (l : List Int) (V : Value) (z : Int) => []) ([]) (.slice none 0 0) (r.peek (7 + th + 2) / 2) ⟨List.nodup_nil, (fun y hy => nomatch hy), Nat.zero_le _⟩ (.cons rfl (.cons rfl (.cons rfl (.cons rfl .nil)))) (List.Sublist.refl _) rfl (fun l V z hi => ?_)
 obtain ⟨hl1, hl2, hl3⟩ := hi
 refine Z ?_
 refine At.callVR rfl rfl rfl (.cons (.s rfl) (.cons (.s rfl) (.cons (.s rfl) .nil))) (.blk (.st M0) (.cons (rS M1) .nil)) (fun hg => r_Fits (r := r) (th := th) (cap := cap) (wd := wd) (ver := ver) (z := z) hn hN hc) .all ?_
 refine W ?_
 refine At.callVR rfl rfl rfl (.cons (.s rfl) (.cons (.s rfl) .nil)) (.cons (wS M2) .nil) (fun hg => r_has (V := V) (l := l) (z := z) (by omega)) .all ?_
 refine Z ?_
 refine At.cond (.t rfl) (fun c1 => ?_) (fun c1 => ?_)
 ·
  have hz : 0 ≤ z ∧ z ≤ (n : Int) := (by simp at c1; omega)
  refine W ?_
  refine At.lit (k := zK) rfl rfl rfl Tryz.underlying25 et_3 (.k rfl .nil) (.cons rfl .nil) rfl rfl rfl (fun v1 => ⟨.all, ?_⟩)
  refine At.app (k := zK) rfl rfl rfl Tryz.underlying25 et_3 (.t rfl) (.t rfl) (fun _ => by (exact U1)) (wS M2) (by (simp <;> omega)) (fun v2 => ⟨.all, ?_⟩)
  refine W ?_
  refine At.callVR rfl rfl rfl (.k rfl (.k rfl .nil)) (.blk (.st (M0)) (.cons (rS M1) .nil)) (fun hg => r_Peek (r := r) hn hN) .all ?_
  refine At.callVR rfl rfl rfl (.k rfl .nil) (.nil) (fun hg => r_At) .all ?_
  refine W ?_
  exact At.again3 (l ++ [z]) (v2) (r.peek (z + 2) / 2) (nd_more hl1 hl2 (by simp at c1; omega) (by simp at c1; exact c1.2)) (by have := (nd_more hl1 hl2 (by simp at c1; omega) (by simp at c1; exact c1.2)).2.2; simp only [List.length_append, List.length_cons, List.length_nil] at this ⊢; omega) (.cons rfl (.cons rfl (.cons rfl (.cons rfl .nil)))) sl rfl
 ·
  refine W ?_
  exact At.final (N' := [rowE zK 3 V l]) rfl (.t rfl) sl (⟨⟨l, rfl, fun y hy => (by have := hl2 y hy; omega), by omega⟩, rfl⟩)
theorem h_pick {ba n : Nat} {wv : Value} {r : Rr} {th cap wd ver z : Int} (hn : r.w.length = n) (hN : n ≤ 1000000) (hc : 0 ≤ cap ∧ cap ≤ 1000000) (ht : 0 ≤ th ∧ th ≤ 1000) (hz : 0 ≤ z ∧ z ≤ 255) : Fn Tryz.prog 12 [.agg #[.int .i64 th, .int .i64 cap, .int .i64 wd, .int .i64 ver], .pointer (some ⟨ba, 0, none⟩), .int .u8 z] ([raB ba wv r, raR wv n r]) ([]) (fun v N H => (∃ k, v = .int .i64 k ∧ 0 ≤ k ∧ k ≤ 1000000) ∧ N = [] ∧ H = []) := by
 refine Fn.enter Tryz.func12 (by kernel_rfl) rfl (n := 24) rfl rfl (fun w => ?_)
 refine W ?_
 refine At.box rfl rfl rfl (.t rfl) (fun b1 hb1 => ⟨.all, ?_⟩)
 refine W ?_
 refine cP rfl rfl rfl (.k rfl (.k rfl .nil)) rfl (r_All (r := r) (th := th) (cap := cap) (wd := wd) (ver := ver) hn hN hc (by omega)) (Rds.all (.blk (.st M0) (.cons (rS M1) .nil))) (fun V N1 H1 hR => ?_); obtain ⟨⟨l, rfl, hl1, hl2⟩, rfl⟩ := hR; refine ⟨rfl, .all, ?_⟩
 refine Z ?_
 refine At.condD (.t rfl) (fun c1 => ?_) (fun c1 => ?_)
 ·
  refine W ?_
  refine At.callVR rfl rfl rfl (.k rfl .nil) (.nil) (fun hg => r_First (by omega)) .all ?_
  refine W ?_
  exact fT rfl (.t rfl) (⟨⟨_, rfl, by omega, by omega⟩, rfl, rfl⟩)
 ·
  have h9 : ¬ ((l.length : Int) = 0) := (by simpa using c1); have hlp : 0 < (l.length : Int) := (by omega); have hq := Int.emod_lt_of_pos z hlp; have hq0 := Int.emod_nonneg z (b := (l.length : Int)) (by omega)
  refine W ?_
  refine eA rfl (R.as (R.conv Tryz.underlying5 Tryz.underlying3 (.t rfl)) (fun _ => congrArg (Value.int .i64) (IntWalk.i64_in _ (by omega)))) ?_
  refine W ?_
  refine eA rfl (R.remI (.t rfl) (.t rfl) gO) ?_
  refine W ?_
  exact fT rfl (.t rfl) (⟨⟨_, rfl, by have := hl1 _ (gE_mem' ⟨hq0, hq⟩); omega, by have := hl1 _ (gE_mem' ⟨hq0, hq⟩); omega⟩, rfl, rfl⟩)
theorem h_Wide {th cap wd ver p : Int} {Ov Pv dv : Value} {gs : opsRows} {ps l0 : List Int} (hp : p ≤ 1000) : Fn Tryz.prog 8 [.agg #[.int .i64 th, .int .i64 cap, .int .i64 wd, .int .i64 ver, Ov, Pv, dv], .int .i64 p] (rdE zK dv l0 :: rdE zK Pv ps :: nest opK Ov gs) ([]) (fun v N H => (∃ e, v = .bool e ∧ (e = false → WideNo th cap wd ver gs ps l0)) ∧ N = [] ∧ H = []) := by
 refine Fn.enter Tryz.func8 (by kernel_rfl) rfl (n := 46) rfl rfl (fun w => ?_)
 have hG : ∀ y ∈ gs, rdE opK y.1 y.2 ∈ rdE zK dv l0 :: rdE zK Pv ps :: nest opK Ov gs := fun y hy => .tail _ (.tail _ (.tail _ ((List.mem_map.2 ⟨y, hy, rfl⟩))))
 refine W ?_
 refine At.box rfl rfl rfl (.t rfl) (fun b1 hb1 => ⟨.all, ?_⟩)
 refine Z ?_
 refine At.cond (.t rfl) (fun c1 => ?_) (fun c1 => ?_)
 ·
  refine W ?_
  exact fT rfl (.t rfl) (⟨⟨_, rfl, fun h => absurd h (by decide)⟩, rfl, rfl⟩)
 ·
  simp at c1
  refine W ?_
  refine At.loop1 (fun (i : Nat) => i ≤ gs.length ∧ ∀ j : Nat, j < i → (gE gs (j : Int)).2.length ≤ 60) (fun (i : Nat) => gs.length - i) (fun (i : Nat) => [(2, true, .pointer (some ⟨b1, 0, none⟩)), (5, true, .int .i64 i)]) (fun (i : Nat) => [.blk b1 (.cells #[.int .i64 th, .int .i64 cap, .int .i64 wd, .int .i64 ver, Ov, Pv, dv] 27)]) (fun (i : Nat) => []) (0) ⟨Nat.zero_le _, fun j hj => absurd hj (Nat.not_lt_zero _)⟩ (.cons rfl (.cons rfl .nil)) (List.Sublist.refl _) rfl (fun i hi => ?_)
  obtain ⟨hi1, hi2⟩ := hi
  refine Z ?_
  refine At.condD (.t rfl) (fun c2 => ?_) (fun c2 => ?_)
  ·
   refine U ?_
   refine eA rfl (R.indexRd Tryz.underlying24 sz_75 (.t rfl) (rS M2) (.t rfl) gO) ?_
   refine eA rfl (R.loadRd Tryz.underlying75 rfl (.t rfl) (rS M2) (fun hg => by exact nestGet (by omega))) ?_
   refine eA rfl (R.lenRd Tryz.underlying75 (.t rfl) (by exact nestS hG (by omega))) ?_
   refine eA rfl (R.gtr (.t rfl) .c) ?_
   refine U ?_
   refine At.condD (.t rfl) (fun c3 => ?_) (fun c3 => ?_)
   ·
    refine W ?_
    exact fT rfl (.t rfl) (⟨⟨_, rfl, fun h => absurd h (by decide)⟩, rfl, rfl⟩)
   ·
    refine W ?_
    exact At.again1 (i + 1) ⟨by omega, fun j hj => (by rcases Nat.lt_succ_iff_lt_or_eq.1 hj with h | h; exact hi2 j h; subst h; simp at c3; omega)⟩ (by omega) (.cons rfl (.cons rfl .nil)) (List.Sublist.refl _) rfl
  ·
   refine W ?_
   have hall : ∀ y ∈ gs, y.2.length ≤ 60 := allE fun j hj => hi2 j (by omega)
   refine W ?_
   refine cP rfl rfl rfl (.k rfl .nil) rfl (r_IsScript (th := th) (cap := cap) (wd := wd) (ver := ver) (Ov := Ov) (Pv := Pv) (dv := dv) (gs := gs) (ps := ps) (l0 := l0) (by omega) (by omega) (fun y hy => by have := hall y hy; omega)) (fun e he w hw => hw.hasS e he) (fun v N1 H1 hR => ?_); obtain ⟨⟨e, rfl, he⟩, rfl, rfl⟩ := hR; refine ⟨rfl, .all, ?_⟩
   refine Z ?_
   exact fT rfl (.t rfl) (⟨⟨_, rfl, fun h => ⟨he (by simpa using h), by omega, by omega, by omega, fun y hy => by have := hall y hy; omega⟩⟩, rfl, rfl⟩)
end Go.Proofs.YtbolanigdkgbdaaGreat
namespace Go.Proofs.YtbolanigdkgbdaaGreat
open Go Go.RowKit
set_option maxRecDepth 10000
set_option linter.unusedVariables false
theorem fo_95_0 : fieldOff? Tryz.prog 95 0 = some 0 := by kernel_rfl
theorem fo_95_1 : fieldOff? Tryz.prog 95 1 = some 1 := by kernel_rfl
theorem fo_95_2 : fieldOff? Tryz.prog 95 2 = some 6 := by kernel_rfl
theorem a_is {b n : Nat} {wv : Value} {a : Ar} (hn : a.w.length = n) (hN : n ≤ 1000000) {i : Int} : Fn Tryz.prog 55 [.pointer (some ⟨b, 0, none⟩), .int .i64 i] ([arB b wv a, arR wv n a]) ([]) (IsV (.bool (a.hit i))) := by
 refine Fn.enter Tryz.func55 (by kernel_rfl) rfl (n := 16) rfl rfl (fun w => ?_)
 refine Z ?_
 exact fT rfl (.t rfl) (⟨congrArg Value.bool (by unfold Ar.hit; rw [hn]), rfl, rfl⟩)
theorem a_Peek {b n : Nat} {wv : Value} {a : Ar} (hn : a.w.length = n) (hN : n ≤ 1000000) {i : Int} : Fn Tryz.prog 17 [.pointer (some ⟨b, 0, none⟩), .int .i64 i] ([arB b wv a, arR wv n a]) ([]) (IsV (.int .i64 (a.peek i))) := by
 refine Fn.enter Tryz.func17 (by kernel_rfl) rfl (n := 16) rfl rfl (fun w => ?_)
 refine W ?_
 refine At.callVR rfl rfl rfl (.k rfl (.k rfl .nil)) (.blk (.st M0) (.cons (rS M1) .nil)) (fun hg => a_is hn hN (a := a)) .all ?_
 refine Z ?_
 refine At.cond (.t rfl) (fun c1 => ?_) (fun c1 => ?_)
 ·
  refine W ?_
  exact fT rfl (.t rfl) (⟨congrArg (Value.int .i64) (by unfold Ar.peek; (rw [if_neg (by simpa using c1)])), rfl, rfl⟩)
 ·
  have hh := Ar.hit_yes (by simpa using c1)
  refine W ?_
  exact fT rfl (.t rfl) (⟨congrArg (Value.int .i64) (by unfold Ar.peek; (rw [if_pos (by simpa using c1)])), rfl, rfl⟩)
theorem a_Poke {b n : Nat} {wv : Value} {a : Ar} (hn : a.w.length = n) (hN : n ≤ 1000000) {i x : Int} : Fn Tryz.prog 37 [.pointer (some ⟨b, 0, none⟩), .int .i64 i, .int .i64 x] ([]) ([arB b wv a, arW wv n a]) (IsM (.tuple #[]) [arB b wv (a.poke i x), arW wv n (a.poke i x)]) := by
 refine Fn.enter Tryz.func37 (by kernel_rfl) rfl (n := 16) rfl rfl (fun w => ?_)
 refine W ?_
 refine At.callVR rfl rfl rfl (.k rfl (.k rfl .nil)) (.blk (.st M0) (.cons (wS M1) .nil)) (fun hg => a_is hn hN (a := a)) .all ?_
 refine W ?_
 refine At.cond (.t rfl) (fun c1 => ?_) (fun c1 => ?_)
 ·
  have hh := Ar.hit_yes (by simpa using c1); refine At.rowForm (v := wv) (M1) (by omega) (fun g cap hv => ?_); subst hv
  refine W ?_
  refine At.stRow (k := zK) rfl rfl sz_3 (.t rfl) (.t rfl) rfl (.h U1) (by omega) (by omega) ⟨.all, ?_⟩
  refine W ?_
  exact At.final0 rfl (List.nil_sublist _) (⟨rfl, rfl, by unfold Ar.poke; (rw [if_pos (by simpa using c1)])⟩) _ (.inr rfl)
 ·
  refine W ?_
  exact At.final0 rfl (List.nil_sublist _) (⟨rfl, rfl, by unfold Ar.poke; (rw [if_neg (by simpa using c1)])⟩) _ (.inr rfl)
theorem a_notes1 {b : Nat} {wv : Value} {a : Ar} (hf : a.few) {i old nw : Int} {ok : Bool} : Fn Tryz.prog 111 [.pointer (some ⟨b, 0, none⟩), .agg #[.int .i64 1, .int .i64 i, .int .i64 old, .int .i64 nw, .bool ok]] ([]) ([arB b wv a]) (IsM (.tuple #[]) [arB b wv (a.note 1 i old nw ok)]) := by
 refine Fn.enter Tryz.func111 (by kernel_rfl) rfl (n := 19) rfl rfl (fun w => ?_)
 obtain ⟨hf0, hf1, hf2, hf3, hf4⟩ := hf
 refine W ?_
 refine At.box rfl rfl rfl (.t rfl) (fun b1 hb1 => ⟨.all, ?_⟩)
 refine W ?_
 refine At.drawL ([]) [tt 0, tt 1, tt 3, tt 4, tt 8, tt 9] [tt 2, tt 5, tt 6, tt 7, tt 10] [ff 11] (fun _ h => nomatch h) (by kernel_rfl) (by kernel_rfl) ?_
 refine V ?_
 refine At.stage kI ?_
 refine W ?_
 refine sJ rfl (R.indexArr Tryz.underlying93 sz_3 (.t rfl) (.t rfl) gO) ?_
 refine W ?_
 refine sJ rfl (R.indexArr Tryz.underlying93 sz_3 (.t rfl) (.t rfl) gO) ?_
 refine At.stage Cl.none ?_
 refine At.st1 rfl rfl sz_3 (.t rfl) (.t rfl) rfl rfl (.h U0) ⟨Cl.none, ?_⟩
 refine W ?_
 refine At.stN rfl rfl sz_57 (.t rfl) (.t rfl) rfl rfl rfl (.h U0) ⟨.all, ?_⟩
 refine W ?_
 exact At.final0 rfl (List.nil_sublist _) (⟨rfl, rfl, rfl⟩) _ (.inr rfl)
theorem a_notes3 {b : Nat} {wv : Value} {a : Ar} (hf : a.few) {i old nw : Int} {ok : Bool} : Fn Tryz.prog 111 [.pointer (some ⟨b, 0, none⟩), .agg #[.int .i64 3, .int .i64 i, .int .i64 old, .int .i64 nw, .bool ok]] ([]) ([arB b wv a]) (IsM (.tuple #[]) [arB b wv (a.note 3 i old nw ok)]) := by
 refine Fn.enter Tryz.func111 (by kernel_rfl) rfl (n := 19) rfl rfl (fun w => ?_)
 obtain ⟨hf0, hf1, hf2, hf3, hf4⟩ := hf
 refine W ?_
 refine At.box rfl rfl rfl (.t rfl) (fun b1 hb1 => ⟨.all, ?_⟩)
 refine W ?_
 refine At.drawL ([]) [tt 0, tt 1, tt 3, tt 4, tt 8, tt 9] [tt 2, tt 5, tt 6, tt 7, tt 10] [ff 11] (fun _ h => nomatch h) (by kernel_rfl) (by kernel_rfl) ?_
 refine V ?_
 refine At.stage kI ?_
 refine W ?_
 refine sJ rfl (R.indexArr Tryz.underlying93 sz_3 (.t rfl) (.t rfl) gO) ?_
 refine W ?_
 refine sJ rfl (R.indexArr Tryz.underlying93 sz_3 (.t rfl) (.t rfl) gO) ?_
 refine At.stage Cl.none ?_
 refine At.st1 rfl rfl sz_3 (.t rfl) (.t rfl) rfl rfl (.h U0) ⟨Cl.none, ?_⟩
 refine W ?_
 refine At.stN rfl rfl sz_57 (.t rfl) (.t rfl) rfl rfl rfl (.h U0) ⟨.all, ?_⟩
 refine W ?_
 exact At.final0 rfl (List.nil_sublist _) (⟨rfl, rfl, rfl⟩) _ (.inr rfl)
theorem a_changes1 {b n : Nat} {wv : Value} {a : Ar} (hn : a.w.length = n) (hN : n ≤ 1000000) (hf : a.few) {f : FuncId} {fst cap : List Value} {bks : List (Nat × Obj)} {g : Int → Int} {okf : Int → Bool} (hfn : ∀ x : Int, Fn Tryz.prog f (fst ++ [.int .i64 x] ++ cap) (bks.map fun x => .blk x.1 x.2) [] (IsV (.tuple #[.int .i64 (g x), .bool (okf x)]))) {i : Int} : Fn Tryz.prog 82 [.pointer (some ⟨b, 0, none⟩), .int .i64 1, .int .i64 i, .func (.func f) fst.toArray cap.toArray] (bks.map fun x => .blk x.1 x.2) ([arB b wv a, arW wv n a]) (IsM (.tuple #[.int .i64 (a.peek i), .bool (a.ran i okf)]) [arB b wv (a.acc 1 i g okf), arW wv n (a.acc 1 i g okf)]) := by
 refine Fn.enter Tryz.func82 (by kernel_rfl) rfl (n := 56) rfl rfl (fun w => ?_)
 refine W ?_
 refine At.callVR rfl rfl rfl (.k rfl (.k rfl .nil)) (.blk (.st (List.mem_append_right _ M0)) (.cons (wS (List.mem_append_right _ M1)) .nil)) (fun hg => a_is hn hN (a := a)) .all ?_
 refine Z ?_
 refine At.cond (.t rfl) (fun c1 => ?_) (fun c1 => ?_)
 ·
  have hh0 : ¬ a.hit i = true := (by simpa using c1)
  refine W ?_
  refine eA rfl (R.build bt_57 (.k rfl (.k rfl .nil)) (.cons rfl (.cons rfl .nil)) rfl) ?_
  refine cM rfl rfl rfl (.k rfl (.k rfl .nil)) rfl (.h (.take .nil)) .nil (a_notes1 (a := a) hf) rfl .nil ⟨.all, ?_⟩
  refine W ?_
  exact At.final2 rfl (.t rfl) (.t rfl) (List.nil_sublist _) (⟨by unfold Ar.peek Ar.ran; (rw [if_neg hh0, if_neg hh0]), rfl, by unfold Ar.acc Ar.poke; (rw [if_neg hh0]; rfl)⟩)
 ·
  have hh0 : a.hit i = true := (by simpa using c1); have hh := Ar.hit_yes hh0; refine At.rowForm (v := wv) (List.mem_append_right _ M1) (by omega) (fun gg cap2 hv => ?_); subst hv
  refine W ?_
  refine At.callVF (fst := fst) (cap := cap) rfl rfl rfl (.t rfl) (.k rfl .nil) rfl (Rds.blks (fun x hx => .st (List.mem_append_left _ (List.mem_map.2 ⟨x, hx, rfl⟩)))) (fun hg => hfn (gE a.w i)) .all ?_
  refine W ?_
  refine At.stRow (k := zK) rfl rfl sz_3 (.t rfl) (.t rfl) rfl (.h U1) (by omega) (by omega) ⟨.all, ?_⟩
  refine Z ?_
  refine eA rfl (R.build bt_57 (.k rfl (.k rfl (.k rfl (.k rfl (.k rfl .nil))))) (.cons rfl (.cons rfl (.cons rfl (.cons rfl (.cons rfl .nil))))) rfl) ?_
  refine cM rfl rfl rfl (.k rfl (.k rfl .nil)) rfl (.h (.take .nil)) .nil (a_notes1 (a := (⟨a.w.set i.toNat (g (gE a.w i)), a.d0, a.d1, a.d2, a.d3, a.d4, a.k, a.at_, a.old, a.nw, a.ok⟩ : Ar)) hf) rfl .nil ⟨.all, ?_⟩
  refine W ?_
  exact At.final2 rfl (.t rfl) (.t rfl) (List.nil_sublist _) (⟨by unfold Ar.peek Ar.ran; (rw [if_pos hh0, if_pos hh0]; rfl), rfl, by unfold Ar.acc Ar.poke; (rw [if_pos hh0, if_pos hh0]; rfl)⟩)
theorem a_changes3 {b n : Nat} {wv : Value} {a : Ar} (hn : a.w.length = n) (hN : n ≤ 1000000) (hf : a.few) {f : FuncId} {fst cap : List Value} {bks : List (Nat × Obj)} {g : Int → Int} {okf : Int → Bool} (hfn : ∀ x : Int, Fn Tryz.prog f (fst ++ [.int .i64 x] ++ cap) (bks.map fun x => .blk x.1 x.2) [] (IsV (.tuple #[.int .i64 (g x), .bool (okf x)]))) {i : Int} : Fn Tryz.prog 82 [.pointer (some ⟨b, 0, none⟩), .int .i64 3, .int .i64 i, .func (.func f) fst.toArray cap.toArray] (bks.map fun x => .blk x.1 x.2) ([arB b wv a, arW wv n a]) (IsM (.tuple #[.int .i64 (a.peek i), .bool (a.ran i okf)]) [arB b wv (a.acc 3 i g okf), arW wv n (a.acc 3 i g okf)]) := by
 refine Fn.enter Tryz.func82 (by kernel_rfl) rfl (n := 56) rfl rfl (fun w => ?_)
 refine W ?_
 refine At.callVR rfl rfl rfl (.k rfl (.k rfl .nil)) (.blk (.st (List.mem_append_right _ M0)) (.cons (wS (List.mem_append_right _ M1)) .nil)) (fun hg => a_is hn hN (a := a)) .all ?_
 refine Z ?_
 refine At.cond (.t rfl) (fun c1 => ?_) (fun c1 => ?_)
 ·
  have hh0 : ¬ a.hit i = true := (by simpa using c1)
  refine W ?_
  refine eA rfl (R.build bt_57 (.k rfl (.k rfl .nil)) (.cons rfl (.cons rfl .nil)) rfl) ?_
  refine cM rfl rfl rfl (.k rfl (.k rfl .nil)) rfl (.h (.take .nil)) .nil (a_notes3 (a := a) hf) rfl .nil ⟨.all, ?_⟩
  refine W ?_
  exact At.final2 rfl (.t rfl) (.t rfl) (List.nil_sublist _) (⟨by unfold Ar.peek Ar.ran; (rw [if_neg hh0, if_neg hh0]), rfl, by unfold Ar.acc Ar.poke; (rw [if_neg hh0]; rfl)⟩)
 ·
  have hh0 : a.hit i = true := (by simpa using c1); have hh := Ar.hit_yes hh0; refine At.rowForm (v := wv) (List.mem_append_right _ M1) (by omega) (fun gg cap2 hv => ?_); subst hv
  refine W ?_
  refine At.callVF (fst := fst) (cap := cap) rfl rfl rfl (.t rfl) (.k rfl .nil) rfl (Rds.blks (fun x hx => .st (List.mem_append_left _ (List.mem_map.2 ⟨x, hx, rfl⟩)))) (fun hg => hfn (gE a.w i)) .all ?_
  refine W ?_
  refine At.stRow (k := zK) rfl rfl sz_3 (.t rfl) (.t rfl) rfl (.h U1) (by omega) (by omega) ⟨.all, ?_⟩
  refine Z ?_
  refine eA rfl (R.build bt_57 (.k rfl (.k rfl (.k rfl (.k rfl (.k rfl .nil))))) (.cons rfl (.cons rfl (.cons rfl (.cons rfl (.cons rfl .nil))))) rfl) ?_
  refine cM rfl rfl rfl (.k rfl (.k rfl .nil)) rfl (.h (.take .nil)) .nil (a_notes3 (a := (⟨a.w.set i.toNat (g (gE a.w i)), a.d0, a.d1, a.d2, a.d3, a.d4, a.k, a.at_, a.old, a.nw, a.ok⟩ : Ar)) hf) rfl .nil ⟨.all, ?_⟩
  refine W ?_
  exact At.final2 rfl (.t rfl) (.t rfl) (List.nil_sublist _) (⟨by unfold Ar.peek Ar.ran; (rw [if_pos hh0, if_pos hh0]; rfl), rfl, by unfold Ar.acc Ar.poke; (rw [if_pos hh0, if_pos hh0]; rfl)⟩)
end Go.Proofs.YtbolanigdkgbdaaGreat
namespace Go.Proofs.YtbolanigdkgbdaaGreat
open Go Go.RowKit
set_option maxRecDepth 10000
set_option linter.unusedVariables false
def Ar.load (a : Ar) (i : Int) : Ar := a.note 1 i (a.peek i) (a.peek i) false
def Ar.swap (a : Ar) (i old nw : Int) : Ar := a.acc 3 i (fun x => if x = old then nw else x) (fun x => decide (x = old))
theorem acc_load (a : Ar) (i : Int) : a.acc 1 i (fun x => x) (fun _ => false) = a.load i := by
  unfold Ar.acc Ar.load Ar.peek
  split
  · rename_i h
    obtain ⟨h1, h2⟩ := Ar.hit_yes h
    have : a.w.set i.toNat (gE a.w i) = a.w := by
      apply List.ext_getElem?
      intro j
      rw [List.getElem?_set]
      split
      · rename_i e; subst e
        have : i.toNat < a.w.length := by omega
        rw [if_pos this]
        unfold gE
        rw [List.getD_eq_getElem?_getD, List.getElem?_eq_getElem this]; rfl
      · rfl
    unfold Ar.poke
    rw [if_pos h, this]; rfl
  · rfl
theorem a_Load1 {x : Int} : Fn Tryz.prog 83 [.int .i64 x] ([]) ([]) (IsV (.tuple #[.int .i64 x, .bool false])) := by
 refine Fn.enter Tryz.func83 (by kernel_rfl) rfl (n := 5) rfl rfl (fun w => ?_)
 refine W ?_
 exact At.final2 rfl (.t rfl) (.t rfl) (List.nil_sublist _) (⟨rfl, rfl, rfl⟩)
theorem a_Swap1 {x old nw : Int} {b1 b2 : Nat} : Fn Tryz.prog 84 [.int .i64 x, .pointer (some ⟨b1, 0, none⟩), .pointer (some ⟨b2, 0, none⟩)] ([.blk b1 (.cells #[.int .i64 old] 3), .blk b2 (.cells #[.int .i64 nw] 3)]) ([]) (IsV (.tuple #[.int .i64 (if x = old then nw else x), .bool (decide (x = old))])) := by
 refine Fn.enter Tryz.func84 (by kernel_rfl) rfl (n := 11) rfl rfl (fun w => ?_)
 refine Z ?_
 refine At.condD (.t rfl) (fun c1 => ?_) (fun c1 => ?_)
 ·
  refine W ?_
  exact At.final2 rfl (.t rfl) (.t rfl) (List.nil_sublist _) (⟨by (rw [if_pos c1, decide_eq_true c1]; rfl), rfl, rfl⟩)
 ·
  refine W ?_
  exact At.final2 rfl (.t rfl) (.t rfl) (List.nil_sublist _) (⟨by (rw [if_neg c1, decide_eq_false c1]), rfl, rfl⟩)
theorem a_Load {b n : Nat} {wv : Value} {a : Ar} (hn : a.w.length = n) (hN : n ≤ 1000000) (hf : a.few) {i : Int} : Fn Tryz.prog 47 [.pointer (some ⟨b, 0, none⟩), .int .i64 i] ([]) ([arB b wv a, arW wv n a]) (IsM (.int .i64 (a.peek i)) [arB b wv (a.load i), arW wv n (a.load i)]) := by
 refine Fn.enter Tryz.func47 (by kernel_rfl) rfl (n := 14) rfl rfl (fun w => ?_)
 refine W ?_
 refine cM rfl rfl rfl (.k rfl (.kc (.k rfl (.cons .f .nil)))) rfl (.h (.take (.take .nil))) .nil (a_changes1 hn hN hf (a := a) (bks := []) (g := (fun x => x)) (okf := (fun _ => false)) (fst := []) (cap := []) (fun x => a_Load1)) rfl .nil ⟨.all, ?_⟩
 refine W ?_
 exact fT rfl (.t rfl) (⟨rfl, rfl, by rw [acc_load]⟩)
theorem a_Swap {b n : Nat} {wv : Value} {a : Ar} (hn : a.w.length = n) (hN : n ≤ 1000000) (hf : a.few) {i old nw : Int} : Fn Tryz.prog 51 [.pointer (some ⟨b, 0, none⟩), .int .i64 i, .int .i64 old, .int .i64 nw] ([]) ([arB b wv a, arW wv n a]) (IsM (.bool (a.ran i fun x => decide (x = old))) [arB b wv (a.swap i old nw), arW wv n (a.swap i old nw)]) := by
 refine Fn.enter Tryz.func51 (by kernel_rfl) rfl (n := 19) rfl rfl (fun w => ?_)
 refine W ?_
 refine At.box rfl rfl rfl (.t rfl) (fun b1 hb1 => ⟨.all, ?_⟩)
 refine At.box rfl rfl rfl (.t rfl) (fun b2 hb2 => ⟨.all, ?_⟩)
 refine W ?_
 refine eA rfl (R.makeFunc .nil (.k rfl (.k rfl .nil))) ?_
 refine cM rfl rfl rfl (.k rfl (.kc (.k rfl (.k rfl .nil)))) rfl (.h (.take (.take .nil))) (.blk (.st M1) (.blk (.st M0) .nil)) (a_changes3 hn hN hf (a := a) (bks := [(b1, .cells #[.int .i64 old] 3), (b2, .cells #[.int .i64 nw] 3)]) (g := (fun x => if x = old then nw else x)) (okf := (fun x => decide (x = old))) (fst := []) (cap := [.pointer (some ⟨b1, 0, none⟩), .pointer (some ⟨b2, 0, none⟩)]) (fun x => a_Swap1)) rfl (Aprt.nh (by simp) (by simp)) ⟨.all, ?_⟩
 refine W ?_
 exact fT rfl (.t rfl) (⟨rfl, rfl, rfl⟩)
end Go.Proofs.YtbolanigdkgbdaaGreat
namespace Go.Proofs.YtbolanigdkgbdaaGreat
open Go Go.RowKit
set_option maxRecDepth 10000
set_option linter.unusedVariables false
theorem bt_23 : buildTab Tryz.prog 23 = some (#[.int .i64 0, .int .i64 0, .int .i64 0, .int .i64 0], [(0, 1), (1, 1), (2, 1), (3, 1)]) := by kernel_rfl
theorem bt_95 : buildTab Tryz.prog 95 = some (#[.slice none 0 0, .int .i64 0, .int .i64 0, .int .i64 0, .int .i64 0, .int .i64 0, .int .i64 0, .int .i64 0, .int .i64 0, .int .i64 0, .bool false], [(0, 1), (1, 5), (6, 5)]) := by kernel_rfl
theorem ze_23 : (Tryz.prog.info? 23).bind (·.zero) = some (.agg #[.int .i64 0, .int .i64 0, .int .i64 0, .int .i64 0]) := by kernel_rfl
def verW (s : Int) : Int := if s < 3 then -1 else s - 3
def IsA (n : Nat) (a : Ar) : Value → Hp → Hp → Prop := fun v N H => ∃ b wv, v = .pointer (some ⟨b, 0, none⟩) ∧ N = [arB b wv a, arW wv n a] ∧ H = []
theorem p_Psa {t : Int} (h0 : 0 ≤ t) (h1 : t ≤ 1000000) : Fn Tryz.prog 93 [.int .i64 t] ([]) ([]) (IsV (.int .i64 (3 + t))) := by
 refine Fn.enter Tryz.func93 (by kernel_rfl) rfl (n := 5) rfl rfl (fun w => ?_)
 refine W ?_
 exact fT rfl (.t rfl) (⟨congrArg (Value.int .i64) (by omega), rfl, rfl⟩)
theorem p_Size {a b c d : Int} (h2 : 0 ≤ b) (h3 : b ≤ 1000000) : Fn Tryz.prog 92 [.agg #[.int .i64 a, .int .i64 b, .int .i64 c, .int .i64 d]] ([]) ([]) (IsV (.int .i64 (7 + 3 * b))) := by
 refine Fn.enter Tryz.func92 (by kernel_rfl) rfl (n := 7) rfl rfl (fun w => ?_)
 refine W ?_
 refine At.box rfl rfl rfl (.t rfl) (fun b1 hb1 => ⟨.all, ?_⟩)
 refine W ?_
 exact fT rfl (.t rfl) (⟨congrArg (Value.int .i64) (by omega), rfl, rfl⟩)
theorem p_Head {a b c d : Int} (h0 : 0 ≤ a) (h1 : a ≤ 1000000) : Fn Tryz.prog 70 [.agg #[.int .i64 a, .int .i64 b, .int .i64 c, .int .i64 d]] ([]) ([]) (IsV (.int .i64 (7 + a))) := by
 refine Fn.enter Tryz.func70 (by kernel_rfl) rfl (n := 7) rfl rfl (fun w => ?_)
 refine W ?_
 refine At.box rfl rfl rfl (.t rfl) (fun b1 hb1 => ⟨.all, ?_⟩)
 refine W ?_
 refine At.callVR rfl rfl rfl (.k rfl .nil) (.nil) (fun hg => p_Psa (by omega) (by omega)) .all ?_
 refine W ?_
 exact fT rfl (.t rfl) (⟨congrArg (Value.int .i64) (by omega), rfl, rfl⟩)
theorem p_First {a b c d : Int} (h0 : 0 ≤ a) (h1 : a ≤ 1000000) : Fn Tryz.prog 36 [.agg #[.int .i64 a, .int .i64 b, .int .i64 c, .int .i64 d]] ([]) ([]) (IsV (.int .i64 (14 + a))) := by
 refine Fn.enter Tryz.func36 (by kernel_rfl) rfl (n := 6) rfl rfl (fun w => ?_)
 refine W ?_
 refine At.box rfl rfl rfl (.t rfl) (fun b1 hb1 => ⟨.all, ?_⟩)
 refine W ?_
 refine At.callVR rfl rfl rfl (.k rfl .nil) (.nil) (fun hg => p_Head (by omega) (by omega)) .all ?_
 refine W ?_
 exact fT rfl (.t rfl) (⟨congrArg (Value.int .i64) (by omega), rfl, rfl⟩)
theorem p_Top {a b c d : Int} (h0 : 0 ≤ a) (h1 : a ≤ 1000000) (h2 : 0 ≤ b) (h3 : b ≤ 1000000) : Fn Tryz.prog 69 [.agg #[.int .i64 a, .int .i64 b, .int .i64 c, .int .i64 d]] ([]) ([]) (IsV (.int .i64 (21 + a + 3 * b))) := by
 refine Fn.enter Tryz.func69 (by kernel_rfl) rfl (n := 8) rfl rfl (fun w => ?_)
 refine W ?_
 refine At.box rfl rfl rfl (.t rfl) (fun b1 hb1 => ⟨.all, ?_⟩)
 refine W ?_
 refine At.drawK [tt 0, tt 2, ff 1, ff 3, tt 4, tt 5] (by kernel_rfl) (by kernel_rfl) ?_
 refine W ?_
 refine At.callVR rfl rfl rfl (.k rfl .nil) (.nil) (fun hg => p_First (by omega) (by omega)) kI ?_
 refine At.callVR rfl rfl rfl (.k rfl .nil) (.nil) (fun hg => p_Size (by omega) (by omega)) kI ?_
 refine W ?_
 exact fT rfl (.t rfl) (⟨congrArg (Value.int .i64) (by omega), rfl, rfl⟩)
theorem p_State {s i : Int} (h0 : -1000000000 ≤ s ∧ s ≤ 1000000000) (h1 : -1000000 ≤ i ∧ i ≤ 1000000) : Fn Tryz.prog 38 [.int .i64 s, .int .i64 i] ([]) ([]) (IsV (.int .i64 (s + 7 + 3 * i))) := by
 refine Fn.enter Tryz.func38 (by kernel_rfl) rfl (n := 10) rfl rfl (fun w => ?_)
 refine W ?_
 exact fT rfl (.t rfl) (⟨congrArg (Value.int .i64) (by omega), rfl, rfl⟩)
theorem q_StateAt {s i : Int} (h0 : -1000000000 ≤ s ∧ s ≤ 1000000000) (h1 : -1000000 ≤ i ∧ i ≤ 1000000) : Fn Tryz.prog 16 [.int .i64 s, .int .i64 i] ([]) ([]) (IsV (.int .i64 (s + 7 + 3 * i))) := by
 refine Fn.enter Tryz.func16 (by kernel_rfl) rfl (n := 10) rfl rfl (fun w => ?_)
 refine W ?_
 exact fT rfl (.t rfl) (⟨congrArg (Value.int .i64) (by omega), rfl, rfl⟩)
theorem w_held {x y z : Int} : Fn Tryz.prog 85 [.int .i64 x, .int .i64 y, .int .i64 z] ([]) ([]) (IsV (.int .i64 (min (max x y) z))) := by
 refine Fn.enter Tryz.func85 (by kernel_rfl) rfl (n := 12) rfl rfl (fun w => ?_)
 refine Z ?_
 exact fT rfl (.t rfl) (⟨rfl, rfl, rfl⟩)
theorem q_held {x y z : Int} : Fn Tryz.prog 56 [.int .i64 x, .int .i64 y, .int .i64 z] ([]) ([]) (IsV (.int .i64 (max y (min x z)))) := by
 refine Fn.enter Tryz.func56 (by kernel_rfl) rfl (n := 12) rfl rfl (fun w => ?_)
 refine Z ?_
 exact fT rfl (.t rfl) (⟨rfl, rfl, rfl⟩)
theorem w_State {s : Int} : Fn Tryz.prog 52 [.int .i64 s] ([]) ([]) (IsV (.int .i64 (min (max s 0) 16777212 + 3))) := by
 refine Fn.enter Tryz.func52 (by kernel_rfl) rfl (n := 6) rfl rfl (fun w => ?_)
 refine W ?_
 refine At.callVR rfl rfl rfl (.k rfl (.kc (.kc .nil))) (.nil) (fun hg => w_held) .all ?_
 refine W ?_
 exact fT rfl (.t rfl) (⟨rfl, rfl, rfl⟩)
theorem q_State {s : Int} : Fn Tryz.prog 18 [.int .i64 s] ([]) ([]) (IsV (.int .i64 (min (max s 0) 16777212 + 3))) := by
 refine Fn.enter Tryz.func18 (by kernel_rfl) rfl (n := 6) rfl rfl (fun w => ?_)
 refine W ?_
 refine At.callVR rfl rfl rfl (.k rfl (.kc (.kc .nil))) (.nil) (fun hg => q_held) .all ?_
 refine W ?_
 exact fT rfl (.t rfl) (⟨congrArg (Value.int .i64) (by omega), rfl, rfl⟩)
theorem w_Version {s : Int} (h0 : -9223372036854775808 ≤ s ∧ s ≤ 9223372036854775807) : Fn Tryz.prog 54 [.int .i64 s] ([]) ([]) (IsV (.int .i64 (verW s))) := by
 refine Fn.enter Tryz.func54 (by kernel_rfl) rfl (n := 7) rfl rfl (fun w => ?_)
 refine Z ?_
 refine At.condD (.t rfl) (fun c1 => ?_) (fun c1 => ?_)
 ·
  refine W ?_
  exact fT rfl (.t rfl) (⟨congrArg (Value.int .i64) (by unfold verW; rw [if_pos (by omega)]), rfl, rfl⟩)
 ·
  refine W ?_
  exact fT rfl (.t rfl) (⟨congrArg (Value.int .i64) (by unfold verW; rw [if_neg (by omega)]), rfl, rfl⟩)
theorem q_Version {s : Int} (h0 : -9223372036854775808 ≤ s ∧ s ≤ 9223372036854775807) : Fn Tryz.prog 19 [.int .i64 s] ([]) ([]) (IsV (.int .i64 (verW s))) := by
 refine Fn.enter Tryz.func19 (by kernel_rfl) rfl (n := 7) rfl rfl (fun w => ?_)
 refine Z ?_
 refine At.condD (.t rfl) (fun c1 => ?_) (fun c1 => ?_)
 ·
  refine W ?_
  exact fT rfl (.t rfl) (⟨congrArg (Value.int .i64) (by unfold verW; rw [if_pos (by omega)]), rfl, rfl⟩)
 ·
  refine W ?_
  exact fT rfl (.t rfl) (⟨congrArg (Value.int .i64) (by unfold verW; rw [if_neg (by omega)]), rfl, rfl⟩)
theorem h_Conf {a b c : Int} : Fn Tryz.prog 34 [.int .i64 a, .int .i64 b, .int .i64 c] ([]) ([]) (IsV (.agg #[.int .i64 a, .int .i64 b, .int .i64 c, .int .i64 1000])) := by
 refine Fn.enter Tryz.func34 (by kernel_rfl) rfl (n := 11) rfl rfl (fun w => ?_)
 refine W ?_
 refine At.alloc rfl rfl rfl ze_23 (fun b1 hb1 => ⟨.all, ?_⟩)
 refine W ?_
 refine eA rfl (R.build bt_23 (.k rfl (.k rfl (.k rfl (.kc .nil)))) (.cons rfl (.cons rfl (.cons rfl (.cons rfl .nil)))) rfl) ?_
 refine At.stN rfl rfl sz_23 (.t rfl) (.t rfl) rfl rfl rfl (.n U0) ⟨.all, ?_⟩
 refine W ?_
 exact At.final rfl (.a (vs := [_, _, _, _]) Tryz.underlying23 rfl sz_23 rfl (csS M0 ⟨rfl, rfl, rfl, rfl, trivial⟩)) (List.nil_sublist _) (⟨rfl, rfl, rfl⟩)
theorem a_New {n : Nat} (h0 : 0 < n ∧ n ≤ 20000) : Fn Tryz.prog 43 [.int .i64 (n : Int)] ([]) ([]) (IsA n (⟨List.replicate n 0, 0, 0, 0, 0, 0, 0, 0, 0, 0, false⟩ : Ar)) := by
 refine Fn.enter Tryz.func43 (by kernel_rfl) rfl (n := 9) rfl rfl (fun w => ?_)
 refine W ?_
 refine eA rfl (R.max2 (.t rfl) .c) ?_
 refine eA rfl (R.as (R.min2 (.t rfl) .c) (fun _ => congrArg (Value.int .i64) (by omega : min (max (n : Int) 1) 20000 = n))) ?_
 refine At.makeSl (k := zK) (z := 0) rfl rfl rfl Tryz.underlying25 et_3 ze_3 rfl (.t rfl) (.t rfl) (by refine ⟨?_, ?_⟩ <;> first | omega | (simp; omega)) (fun v1 => ⟨.all, ?_⟩)
 refine At.rowOne (v := v1) (M0) (fun h1v => ?_)
 refine eA rfl (R.build (cs := [v1, .int .i64 0, .int .i64 0, .int .i64 0, .int .i64 0, .int .i64 0, .int .i64 0, .int .i64 0, .int .i64 0, .int .i64 0, .bool false]) bt_95 (.k rfl .nil) (.cons (c := [_]) (cells_one h1v) .nil) rfl) ?_
 refine At.box rfl rfl rfl (.t rfl) (fun b1 hb1 => ⟨.all, ?_⟩)
 refine W ?_
 refine At.re (N' := [arB b1 v1 (⟨List.replicate n 0, 0, 0, 0, 0, 0, 0, 0, 0, 0, false⟩ : Ar), arW v1 n (⟨List.replicate n 0, 0, 0, 0, 0, 0, 0, 0, 0, 0, false⟩ : Ar)]) (by rw [rowE, List.length_replicate]; rfl) ?_
 exact At.final (N' := [arB b1 v1 (⟨List.replicate n 0, 0, 0, 0, 0, 0, 0, 0, 0, 0, false⟩ : Ar), arW v1 n (⟨List.replicate n 0, 0, 0, 0, 0, 0, 0, 0, 0, 0, false⟩ : Ar)]) rfl (.t rfl) (List.Sublist.refl _) (⟨b1, v1, rfl, rfl, rfl⟩)
end Go.Proofs.YtbolanigdkgbdaaGreat
namespace Go.Proofs.YtbolanigdkgbdaaGreat
open Go Go.RowKit
set_option linter.unusedVariables false
structure Lk where
  th : Int
  cap : Int
  wd : Int
  ver : Int
  chunk : Int
  lo : Int
  hi : Int
  most : Int
  line : Int
  n : Int
  i : Int
  state : Int
  key : Int
  g : Int
  ml : List (Int × Itm)
abbrev vfT : Itm → Value := fun x => .agg #[.int .i64 x.key, .int .i64 x.ver, .int .i64 x.data]
abbrev lkC (bm : Nat) (x : Lk) : Array Value := #[.int .i64 x.th, .int .i64 x.cap, .int .i64 x.wd, .int .i64 x.ver, .int .i64 x.chunk, .int .i64 x.lo, .int .i64 x.hi, .int .i64 x.most, .int .i64 x.line, .int .i64 x.n, .int .i64 x.i, .int .i64 x.state, .int .i64 x.key, .int .i64 x.g, .map (some bm)]
abbrev lkB (b bm : Nat) (x : Lk) : Ent := .blk b (.cells (lkC bm x) 90)
abbrev lkM (bm : Nat) (x : Lk) : Ent := mapE kfZ vfT bm x.ml
structure Lk.ok (x : Lk) : Prop where
  chunk : -1000000 ≤ x.chunk ∧ x.chunk ≤ 1000000
  i : -1 ≤ x.i ∧ x.i ≤ 100000
  state : -9223372036854775808 ≤ x.state ∧ x.state ≤ 9223372036854775807
def Lk.at_ (x : Lk) : Int := x.chunk + 7 + 3 * x.i
def Lk.next (x : Lk) : Lk := { x with i := x.i + 1 }
def Lk.nextL (x : Lk) : Int := if x.n ≤ x.i + 1 then 0 else 2
def Lk.best (x : Lk) : Itm := (aget x.ml x.key).getD default
def Lk.past (x : Lk) : Bool := decide (x.most < verW x.state) || ((aget x.ml x.key).isSome && decide (verW x.state < x.best.ver))
def Lk.seen (x : Lk) : Lk := if x.past = true then x.next else x
def Lk.seenL (x : Lk) : Int := if x.past = true then x.nextL else 7
abbrev Lk.withKey (x : Lk) (k : Int) : Lk := ⟨x.th, x.cap, x.wd, x.ver, x.chunk, x.lo, x.hi, x.most, x.line, x.n, x.i, x.state, k, x.g, x.ml⟩
abbrev Lk.withState (x : Lk) (s : Int) : Lk := ⟨x.th, x.cap, x.wd, x.ver, x.chunk, x.lo, x.hi, x.most, x.line, x.n, x.i, s, x.key, x.g, x.ml⟩
abbrev Lk.withLine (x : Lk) (s : Int) : Lk := ⟨x.th, x.cap, x.wd, x.ver, x.chunk, x.lo, x.hi, x.most, s, x.n, x.i, x.state, x.key, x.g, x.ml⟩
abbrev Lk.withN (x : Lk) (s : Int) : Lk := ⟨x.th, x.cap, x.wd, x.ver, x.chunk, x.lo, x.hi, x.most, x.line, s, x.i, x.state, x.key, x.g, x.ml⟩
abbrev Lk.withG (x : Lk) (s : Int) : Lk := ⟨x.th, x.cap, x.wd, x.ver, x.chunk, x.lo, x.hi, x.most, x.line, x.n, x.i, x.state, x.key, s, x.ml⟩
abbrev Lk.withMl (x : Lk) (m : List (Int × Itm)) : Lk := ⟨x.th, x.cap, x.wd, x.ver, x.chunk, x.lo, x.hi, x.most, x.line, x.n, x.i, x.state, x.key, x.g, m⟩
def Lk.keyed (x : Lk) (k : Int) : Lk × Int := if k < x.lo ∨ x.hi < k then ((x.withKey k).next, (x.withKey k).nextL) else if x.state = 1 then (x.withKey k, 4) else ((x.withKey k).seen, (x.withKey k).seenL)
theorem Lk.keyed_out {x : Lk} {k : Int} (h : k < x.lo ∨ x.hi < k) : x.keyed k = ((x.withKey k).next, (x.withKey k).nextL) := by unfold Lk.keyed; rw [if_pos h]
theorem Lk.keyed_seen {x : Lk} {k : Int} (h : ¬ (k < x.lo ∨ x.hi < k)) (h2 : ¬ x.state = 1) : x.keyed k = ((x.withKey k).seen, (x.withKey k).seenL) := by unfold Lk.keyed; rw [if_neg h, if_neg h2]
theorem Lk.keyed_post {x : Lk} {k : Int} (h : ¬ (k < x.lo ∨ x.hi < k)) (h2 : x.state = 1) : x.keyed k = (x.withKey k, 4) := by unfold Lk.keyed; rw [if_neg h, if_pos h2]
def Ar.word (a : Ar) : Prop := ∀ x ∈ a.w, -9223372036854775808 ≤ x ∧ x ≤ 9223372036854775807
theorem Ar.peek_bd (a : Ar) (h : a.word) (i : Int) : -9223372036854775808 ≤ a.peek i ∧ a.peek i ≤ 9223372036854775807 := by
  unfold Ar.peek
  split
  · rename_i hh
    obtain ⟨h1, h2⟩ := Ar.hit_yes hh
    refine h _ ?_
    unfold gE
    rw [List.getD_eq_getElem?_getD, List.getElem?_eq_getElem (by omega)]
    exact List.getElem_mem _
  · omega
def Lk.step (x : Lk) (a : Ar) : Lk × Ar :=
  if x.line = 0 then (x, a)
  else if x.line = 1 then ((x.withN (min (max (a.peek (x.chunk + 1)) 0) x.cap)).next.withLine (x.withN (min (max (a.peek (x.chunk + 1)) 0) x.cap)).nextL, a.load (x.chunk + 1))
  else if x.line = 2 then if a.peek x.at_ = 1 ∨ 3 ≤ a.peek x.at_ then ((x.withState (a.peek x.at_)).withLine 3, a.load x.at_) else ((x.withState (a.peek x.at_)).next.withLine (x.withState (a.peek x.at_)).nextL, a.load x.at_)
  else if x.line = 3 then ((x.keyed (a.peek (x.at_ + 1))).1.withLine (x.keyed (a.peek (x.at_ + 1))).2, a.load (x.at_ + 1))
  else if x.line = 4 then ((x.withG (a.peek 1)).withLine 5, a.load 1)
  else if x.line = 5 then (x.withLine 6, a.swap x.at_ 1 (min (max x.g 0) 16777212 + 3))
  else if x.line = 6 then if a.peek x.at_ < 3 then ((x.withState (a.peek x.at_)).next.withLine (x.withState (a.peek x.at_)).nextL, a.load x.at_) else ((x.withState (a.peek x.at_)).seen.withLine (x.withState (a.peek x.at_)).seenL, a.load x.at_)
  else if x.line = 7 then ((x.withMl (aput x.ml x.key ⟨x.key, verW x.state, a.peek (x.at_ + 2)⟩)).next.withLine (x.withMl (aput x.ml x.key ⟨x.key, verW x.state, a.peek (x.at_ + 2)⟩)).nextL, a.load (x.at_ + 2))
  else (x, a)
section
variable {x : Lk} {a : Ar}
theorem Lk.step0 (h : x.line = 0) : x.step a = (x, a) := by unfold Lk.step; rw [if_pos h]
theorem Lk.step1 (h : x.line = 1) : x.step a = ((x.withN (min (max (a.peek (x.chunk + 1)) 0) x.cap)).next.withLine (x.withN (min (max (a.peek (x.chunk + 1)) 0) x.cap)).nextL, a.load (x.chunk + 1)) := by unfold Lk.step; rw [if_neg (by omega), if_pos h]
theorem Lk.step2y (h : x.line = 2) (h2 : a.peek x.at_ = 1 ∨ 3 ≤ a.peek x.at_) : x.step a = ((x.withState (a.peek x.at_)).withLine 3, a.load x.at_) := by unfold Lk.step; rw [if_neg (by omega), if_neg (by omega), if_pos h, if_pos h2]
theorem Lk.step2n (h : x.line = 2) (h2 : ¬ a.peek x.at_ = 1 ∧ a.peek x.at_ < 3) : x.step a = ((x.withState (a.peek x.at_)).next.withLine (x.withState (a.peek x.at_)).nextL, a.load x.at_) := by unfold Lk.step; rw [if_neg (by omega), if_neg (by omega), if_pos h, if_neg (by omega)]
theorem Lk.step3 (h : x.line = 3) : x.step a = ((x.keyed (a.peek (x.at_ + 1))).1.withLine (x.keyed (a.peek (x.at_ + 1))).2, a.load (x.at_ + 1)) := by unfold Lk.step; rw [if_neg (by omega), if_neg (by omega), if_neg (by omega), if_pos h]
theorem Lk.step4 (h : x.line = 4) : x.step a = ((x.withG (a.peek 1)).withLine 5, a.load 1) := by unfold Lk.step; rw [if_neg (by omega), if_neg (by omega), if_neg (by omega), if_neg (by omega), if_pos h]
theorem Lk.step5 (h : x.line = 5) : x.step a = (x.withLine 6, a.swap x.at_ 1 (min (max x.g 0) 16777212 + 3)) := by unfold Lk.step; rw [if_neg (by omega), if_neg (by omega), if_neg (by omega), if_neg (by omega), if_neg (by omega), if_pos h]
theorem Lk.step6n (h : x.line = 6) (h2 : a.peek x.at_ < 3) : x.step a = ((x.withState (a.peek x.at_)).next.withLine (x.withState (a.peek x.at_)).nextL, a.load x.at_) := by unfold Lk.step; rw [if_neg (by omega), if_neg (by omega), if_neg (by omega), if_neg (by omega), if_neg (by omega), if_neg (by omega), if_pos h, if_pos h2]
theorem Lk.step6y (h : x.line = 6) (h2 : 3 ≤ a.peek x.at_) : x.step a = ((x.withState (a.peek x.at_)).seen.withLine (x.withState (a.peek x.at_)).seenL, a.load x.at_) := by unfold Lk.step; rw [if_neg (by omega), if_neg (by omega), if_neg (by omega), if_neg (by omega), if_neg (by omega), if_neg (by omega), if_pos h, if_neg (by omega)]
theorem Lk.step7 (h : x.line = 7) : x.step a = ((x.withMl (aput x.ml x.key ⟨x.key, verW x.state, a.peek (x.at_ + 2)⟩)).next.withLine (x.withMl (aput x.ml x.key ⟨x.key, verW x.state, a.peek (x.at_ + 2)⟩)).nextL, a.load (x.at_ + 2)) := by unfold Lk.step; rw [if_neg (by omega), if_neg (by omega), if_neg (by omega), if_neg (by omega), if_neg (by omega), if_neg (by omega), if_neg (by omega), if_pos h]
theorem Lk.step8 (h0 : ¬ x.line = 0) (h1 : ¬ x.line = 1) (h2 : ¬ x.line = 2) (h3 : ¬ x.line = 3) (h4 : ¬ x.line = 4) (h5 : ¬ x.line = 5) (h6 : ¬ x.line = 6) (h7 : ¬ x.line = 7) : x.step a = (x, a) := by unfold Lk.step; rw [if_neg h0, if_neg h1, if_neg h2, if_neg h3, if_neg h4, if_neg h5, if_neg h6, if_neg h7]
end
end Go.Proofs.YtbolanigdkgbdaaGreat
namespace Go.Proofs.YtbolanigdkgbdaaGreat
open Go Go.RowKit
set_option linter.unusedVariables false
theorem Ar.peek_poke (a : Ar) (i x z : Int) : (a.poke i x).peek z = if a.hit i = true ∧ z = i then x else a.peek z := by
  unfold Ar.poke
  by_cases h : a.hit i = true
  · rw [if_pos h]
    have hh := Ar.hit_yes h
    have hz : ∀ z, Ar.hit ⟨a.w.set i.toNat x, a.d0, a.d1, a.d2, a.d3, a.d4, a.k, a.at_, a.old, a.nw, a.ok⟩ z = a.hit z := fun z => by unfold Ar.hit; simp
    unfold Ar.peek
    rw [hz]
    by_cases hzi : z = i
    · subst hzi
      rw [if_pos h]
      simp only [h, true_and, if_true]
      unfold gE
      rw [List.getD_eq_getElem?_getD, List.getElem?_set_self (by omega)]; rfl
    · simp only [hzi, and_false, if_false]
      by_cases hz2 : a.hit z = true
      · rw [if_pos hz2, if_pos hz2]
        have := Ar.hit_yes hz2
        unfold gE
        rw [List.getD_eq_getElem?_getD, List.getD_eq_getElem?_getD, List.getElem?_set_ne (by omega)]
      · rw [if_neg hz2, if_neg hz2]
  · rw [if_neg h, if_neg (fun hc => h hc.1)]
theorem Ar.peek_acc (a : Ar) (k i : Int) (g : Int → Int) (okf : Int → Bool) (z : Int) : (a.acc k i g okf).peek z = if a.hit i = true ∧ z = i then g (a.peek i) else a.peek z := by
  unfold Ar.acc
  by_cases h : a.hit i = true
  · rw [if_pos h]
    show (a.poke i (g (gE a.w i))).peek z = _
    rw [Ar.peek_poke]
    have : a.peek i = gE a.w i := by unfold Ar.peek; rw [if_pos h]
    rw [this]
  · rw [if_neg h, if_neg (fun hc => h hc.1)]; rfl
theorem Ar.peek_swap (a : Ar) (i o n z : Int) : (a.swap i o n).peek z = if a.hit i = true ∧ z = i ∧ a.peek i = o then n else a.peek z := by
  unfold Ar.swap
  rw [Ar.peek_acc]
  by_cases h : a.hit i = true ∧ z = i
  · obtain ⟨h1, rfl⟩ := h
    rw [if_pos ⟨h1, rfl⟩]
    by_cases h2 : a.peek z = o
    · rw [if_pos h2, if_pos ⟨h1, rfl, h2⟩]
    · rw [if_neg h2, if_neg (fun hc => h2 hc.2.2)]
  · rw [if_neg h, if_neg (fun hc => h ⟨hc.1, hc.2.1⟩)]
theorem Ar.len_swap (a : Ar) (i o n : Int) : (a.swap i o n).w.length = a.w.length := Ar.acc_len _ _ _ _ _
def Ar.cnt (m : Int) (a : Ar) : Prop := (0 ≤ a.d0 ∧ a.d0 ≤ m) ∧ (0 ≤ a.d1 ∧ a.d1 ≤ m) ∧ (0 ≤ a.d2 ∧ a.d2 ≤ m) ∧ (0 ≤ a.d3 ∧ a.d3 ≤ m) ∧ (0 ≤ a.d4 ∧ a.d4 ≤ m)
theorem Ar.cnt_few {m : Int} {a : Ar} (h : a.cnt m) (hm : m ≤ 1000000000) : a.few := by
  obtain ⟨h0, h1, h2, h3, h4⟩ := h
  exact ⟨⟨h0.1, by omega⟩, ⟨h1.1, by omega⟩, ⟨h2.1, by omega⟩, ⟨h3.1, by omega⟩, ⟨h4.1, by omega⟩⟩
theorem Ar.cnt_note {m : Int} {a : Ar} (h : a.cnt m) (k i o n : Int) (ok : Bool) : (a.note k i o n ok).cnt (m + 1) := by
  obtain ⟨h0, h1, h2, h3, h4⟩ := h
  unfold Ar.note
  refine ⟨⟨h0.1, ?_⟩, ⟨?_, ?_⟩, ⟨?_, ?_⟩, ⟨?_, ?_⟩, ⟨?_, ?_⟩⟩ <;> dsimp only <;> (try split) <;> omega
theorem Ar.cnt_poke {m : Int} {a : Ar} (h : a.cnt m) (i x : Int) : (a.poke i x).cnt m := by
  unfold Ar.poke; split <;> exact h
theorem Ar.cnt_acc {m : Int} {a : Ar} (h : a.cnt m) (k i : Int) (g : Int → Int) (okf : Int → Bool) : (a.acc k i g okf).cnt (m + 1) := by
  unfold Ar.acc; split
  · exact Ar.cnt_note (Ar.cnt_poke h _ _) _ _ _ _ _
  · exact Ar.cnt_note h _ _ _ _ _
theorem Ar.word_poke {a : Ar} (h : a.word) {i x : Int} (hx : -9223372036854775808 ≤ x ∧ x ≤ 9223372036854775807) : (a.poke i x).word := by
  unfold Ar.poke; split
  · intro z hz
    rcases List.mem_or_eq_of_mem_set hz with h2 | rfl
    · exact h z h2
    · exact hx
  · exact h
theorem Ar.word_swap {a : Ar} (h : a.word) {i o n : Int} (hn : -9223372036854775808 ≤ n ∧ n ≤ 9223372036854775807) : (a.swap i o n).word := by
  unfold Ar.swap Ar.acc
  split
  · refine Ar.word_poke h ?_
    dsimp only
    split
    · exact hn
    · have := a.peek_bd h i
      unfold Ar.peek at this
      rw [if_pos (by assumption)] at this; exact this
  · exact h
section
variable {κ α : Type} [DecidableEq κ]
theorem aidxS : ∀ (l : List (κ × α)) (k : κ) (i : Nat), aidx l k (i + 1) = (aidx l k i).map fun p => (p.1 + 1, p.2)
  | [], _, _ => rfl
  | x :: r, k, i => by
    simp only [aidx]
    split
    · rfl
    · exact aidxS r k (i + 1)
theorem aget_cns (x : κ × α) (r : List (κ × α)) (k : κ) : aget (x :: r) k = if k = x.1 then some x.2 else aget r k := by
  unfold aget
  simp only [aidx]
  split
  · rfl
  · rw [aidxS]; cases aidx r k 0 <;> rfl
theorem aput_cns (x : κ × α) (r : List (κ × α)) (k : κ) (v : α) : aput (x :: r) k v = if k = x.1 then (k, v) :: r else x :: aput r k v := by
  unfold aput
  simp only [aidx]
  by_cases h : k = x.1
  · simp [h]
  · simp only [h, if_false, aidxS]
    cases aidx r k 0 with
    | none => simp
    | some p => simp
theorem aput_len (ml : List (κ × α)) (k : κ) (v : α) : (aput ml k v).length ≤ ml.length + 1 := by
  induction ml with
  | nil => simp [aput, aidx]
  | cons x r ih => rw [aput_cns]; split <;> simp; omega
theorem aput_mem {ml : List (κ × α)} {k : κ} {v : α} {e : κ × α} (h : e ∈ aput ml k v) : e = (k, v) ∨ e ∈ ml := by
  induction ml with
  | nil => left; simpa [aput, aidx] using h
  | cons x r ih =>
    rw [aput_cns] at h
    split at h
    · rcases List.mem_cons.1 h with h | h
      · exact .inl h
      · exact .inr (by simp [h])
    · rcases List.mem_cons.1 h with h | h
      · exact .inr (by simp [h])
      · rcases ih h with h | h
        · exact .inl h
        · exact .inr (by simp [h])
theorem aput_nd {ml : List (κ × α)} (hn : (ml.map (·.1)).Nodup) (k : κ) (v : α) : ((aput ml k v).map (·.1)).Nodup := by
  induction ml with
  | nil => simp [aput, aidx]
  | cons x r ih =>
    rw [List.map_cons, List.nodup_cons] at hn
    rw [aput_cns]
    split
    · rename_i e; subst e; rw [List.map_cons, List.nodup_cons]; exact hn
    · rename_i e
      rw [List.map_cons, List.nodup_cons]
      refine ⟨fun hm => ?_, ih hn.2⟩
      obtain ⟨y, hy, hyx⟩ := List.mem_map.1 hm
      rcases aput_mem hy with rfl | h
      · exact e hyx
      · exact hn.1 (List.mem_map.2 ⟨y, h, hyx⟩)
theorem aget_mem {ml : List (κ × α)} {k : κ} (h : k ∈ ml.map (·.1)) : ∃ v, aget ml k = some v ∧ (k, v) ∈ ml := by
  induction ml with
  | nil => simp at h
  | cons x r ih =>
    rw [aget_cns]
    by_cases e : k = x.1
    · rw [if_pos e]; subst e; exact ⟨x.2, rfl, by simp⟩
    · rw [if_neg e]
      obtain ⟨v, h1, h2⟩ := ih (by rcases List.mem_cons.1 (by simpa using h : k ∈ x.1 :: r.map (·.1)) with h | h; exact absurd h e; exact h)
      exact ⟨v, h1, by simp [h2]⟩
end
end Go.Proofs.YtbolanigdkgbdaaGreat
