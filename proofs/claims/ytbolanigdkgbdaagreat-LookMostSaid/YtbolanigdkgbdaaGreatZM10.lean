/- Part of the proof: lemmas for what the last file states; no condition. -/
import Derived.Test.YtbolanigdkgbdaaGreatZM9
set_option linter.unusedSectionVars false
namespace Go.Proofs.YtbolanigdkgbdaaGreat
open Go Go.RowKit
set_option maxRecDepth 10000
set_option linter.unusedVariables false
set_option linter.unnecessarySimpa false
set_option linter.unusedSectionVars false
set_option maxHeartbeats 1000000
theorem bt_145 : buildTab Tryz.prog 145 = some (#[.int .i64 0, .int .i64 0, .int .i64 0, .int .i64 0, .int .i64 0, .int .i64 0, .slice none 0 0, .pointer none, .pointer none, .pointer none, .bool false, .int .i64 0, .int .i64 0, .bool false], [(0, 4), (4, 1), (5, 1), (6, 1), (7, 1), (8, 1), (9, 1), (10, 1), (11, 1), (12, 1), (13, 1)]) := by kernel_rfl
theorem fo_145_0 : fieldOff? Tryz.prog 145 0 = some 0 := by kernel_rfl
theorem fo_145_1 : fieldOff? Tryz.prog 145 1 = some 4 := by kernel_rfl
theorem fo_145_10 : fieldOff? Tryz.prog 145 10 = some 13 := by kernel_rfl
theorem fo_145_2 : fieldOff? Tryz.prog 145 2 = some 5 := by kernel_rfl
theorem fo_145_4 : fieldOff? Tryz.prog 145 4 = some 7 := by kernel_rfl
theorem fo_145_5 : fieldOff? Tryz.prog 145 5 = some 8 := by kernel_rfl
theorem fo_145_6 : fieldOff? Tryz.prog 145 6 = some 9 := by kernel_rfl
theorem fo_145_7 : fieldOff? Tryz.prog 145 7 = some 10 := by kernel_rfl
theorem sz_142 : (Tryz.prog.info? 142).map (·.size) = some 1 := by kernel_rfl
structure Pu where
  th : Int
  cap : Nat
  wd : Int
  ver : Int
  key : Int
  data : Int
  version : Int
  e : Int
  placed : Bool
abbrev puC (Dv : Value) (wp xp mp : Option Nat) (ov : Bool) (x : Pu) : Array Value := #[.int .i64 x.th, .int .i64 (x.cap : Int), .int .i64 x.wd, .int .i64 x.ver, .int .i64 x.key, .int .i64 x.data, Dv, ptO wp, ptO xp, ptO mp, .bool ov, .int .i64 x.version, .int .i64 x.e, .bool x.placed]
abbrev puB (b : Nat) (Dv : Value) (wp xp mp : Option Nat) (ov : Bool) (x : Pu) : Ent := .blk b (.cells (puC Dv wp xp mp ov x) 145)
theorem pu_New {dv Dv : Value} {l0 l : List Int} {th wd ver key data : Int} {cap : Nat} (hD : DrO dv l0 Dv l) : FnX Tryz.prog 98 [.agg #[.int .i64 th, .int .i64 (cap : Int), .int .i64 wd, .int .i64 ver], .int .i64 key, .int .i64 data, Dv] ([rdE zK dv l0]) ([]) (fun v N => ∃ pu wb, v = .pointer (some ⟨pu, 0, none⟩) ∧ N = [puB pu Dv (some wb) none none false (⟨th, cap, wd, ver, key, data, 0, 0, false⟩ : Pu), dwB wb (⟨th, (cap : Int), wd, ver, key, 1, 0, 0, 0, 0⟩ : Dw)]) := by
 refine FnX.enter Tryz.func98 (by kernel_rfl) rfl (n := 18) rfl rfl (fun w df hds how => ?_)
 refine At.sliceForm (drS hD) (fun sA scap hsv _ _ => ?_)
 subst hsv
 refine W ?_
 refine At.box rfl rfl rfl (.t rfl) (fun b1 hb1 => ⟨.all, ?_⟩)
 refine W ?_
 refine At.drawK [tt 0, tt 1, tt 2, tt 3, tt 4, tt 5, ff 6, tt 7, ff 8, tt 9] (by kernel_rfl) (by kernel_rfl) ?_
 refine W ?_
 refine cP rfl rfl rfl (.k rfl (.k rfl .nil)) rfl (dw_New (a := th) (b := (cap : Int)) (c := wd) (d := ver) (key := key)) (fun _ h => nomatch h) (fun v N1 H1 hR => ?_); obtain ⟨wb, rfl, rfl, rfl⟩ := hR; refine ⟨rfl, kz, ?_⟩
 refine sC rfl kz (R.build bt_145 (.k rfl (.k rfl (.k rfl (.k rfl (.k rfl .nil))))) (.cons rfl (.cons rfl (.cons rfl (.cons rfl (.cons rfl .nil))))) rfl) ?_
 refine At.box rfl rfl rfl (.t rfl) (fun b2 hb2 => ⟨kz, ?_⟩)
 refine W ?_
 exact At.finalX (N' := [puB b2 (.slice sA l.length scap) (some wb) none none false (⟨th, cap, wd, ver, key, data, 0, 0, false⟩ : Pu), dwB wb (⟨th, (cap : Int), wd, ver, key, 1, 0, 0, 0, 0⟩ : Dw)]) hds how rfl (.t rfl) sl (⟨b2, wb, rfl, rfl⟩)
theorem pu_Step0 {pu ba n : Nat} {dv wv Dv : Value} {l0 l : List Int} {x : Pu} {r : Rr} {wp xp mp : Option Nat}  : FnX Tryz.prog 103 [.pointer (some ⟨pu, 0, none⟩), .pointer (some ⟨ba, 0, none⟩)] ([rdE zK dv l0]) ([puB pu Dv wp xp mp true x]) (fun v N => v = .bool true ∧ N = [puB pu Dv wp xp mp true x]) := by
 refine FnX.enter Tryz.func103 (by kernel_rfl) rfl (n := 184) rfl rfl (fun w df hds how => ?_)
 refine W ?_
 exact At.finalX (N' := [puB pu Dv wp xp mp true x]) hds how rfl (.t rfl) (List.Sublist.refl _) (⟨rfl, rfl⟩)
theorem pu_StepW {pu ba n : Nat} {dv wv Dv : Value} {l0 l : List Int} {x : Pu} {r : Rr} {wb : Nat} {u : Dw} (hu : u.ok) (hn : r.w.length = n) (hN : n ≤ 1000000) (hf : r.few) (hw : r.mid 1152921504606846976) : FnX Tryz.prog 103 [.pointer (some ⟨pu, 0, none⟩), .pointer (some ⟨ba, 0, none⟩)] ([rdE zK dv l0]) ([puB pu Dv (some wb) none none false x, dwB wb u, raB ba wv r, raW wv n r]) (fun v N => v = .bool false ∧ ((¬ (u.step r).1.line = 0 ∧ N = [puB pu Dv (some wb) none none false (⟨x.th, x.cap, x.wd, x.ver, x.key, x.data, x.version, x.e, false⟩ : Pu), dwB wb (u.step r).1, raB ba wv (u.step r).2, raW wv n (u.step r).2]) ∨ ((u.step r).1.line = 0 ∧ ∃ xb, N = [dxB xb (⟨x.th, (x.cap : Int), x.wd, x.ver, (u.step r).1.at_, x.key, x.data, 1, -1, 0, -1⟩ : Dx), puB pu Dv (some wb) (some xb) none false (⟨x.th, x.cap, x.wd, x.ver, x.key, x.data, x.version, x.e, false⟩ : Pu), raB ba wv (u.step r).2, raW wv n (u.step r).2]))) := by
 refine FnX.enter Tryz.func103 (by kernel_rfl) rfl (n := 184) rfl rfl (fun w df hds how => ?_)
 refine W ?_
 refine At.st1 rfl rfl sz_4 (.t rfl) .c rfl rfl (.n U0) ⟨.all, ?_⟩
 refine W ?_
 refine eA rfl (R.neqNilP Tryz.underlying143 (.t rfl)) ?_
 refine W ?_
 refine eA rfl (R.neqNilP Tryz.underlying142 (.t rfl)) ?_
 refine W ?_
 refine cM rfl rfl rfl (.k rfl (.k rfl .nil)) rfl (.n (.skip (.take (.take (.take .nil))))) .nil (dw_Step (x := u) (r := r) hu hn hN hf hw) rfl .nil ⟨.all, ?_⟩
 refine W ?_
 refine At.condD (.t rfl) (fun c4 => ?_) (fun c4 => ?_)
 ·
  have hz : (u.step r).1.line = 0 := (by simpa using c4)
  let F13 : Nat → Fr := fun xb => [(157, pt pu 0), (158, pt pu 0), (159, pt pu 0), (160, pt pu 0), (161, true, .agg #[.int .i64 x.th, .int .i64 (x.cap : Int), .int .i64 x.wd, .int .i64 x.ver]), (162, pt pu 0), (163, pt pu 0), (164, pt pu 7), (165, pt wb 0), (166, pt wb 0), (167, pt wb 9), (168, true, .int .i64 (u.step r).1.at_), (169, pt pu 0), (170, pt pu 0), (171, pt pu 4), (172, iv x.key), (173, pt pu 0), (174, pt pu 0), (175, pt pu 5), (176, iv x.data), (177, pt xb 0), (178, pt pu 0), (179, pt pu 8), (0, pt pu 0)]
  refine At.dag [tt 0, tt 1, tt 2, tt 3, tt 5, tt 6, tt 7, tt 12, tt 13, tt 14, tt 16, tt 17, tt 18] 11 (mF 24 [4, 8, 9, 10, 11, 15, 19, 20, 21, 22, 23]) ([rdE zK dv l0]) (keepOf sl) (by kernel_rfl) (by kernel_rfl) (fun G hnode hdone => ?_)
  have g0 : ∀ (xb : Nat), At w 184 [rdE zK dv l0] (fs (F13 xb) 16777215) ([dxB xb (⟨x.th, (x.cap : Int), x.wd, x.ver, (u.step r).1.at_, x.key, x.data, 1, -1, 0, -1⟩ : Dx), puB pu Dv (some wb) (some xb) none false (⟨x.th, x.cap, x.wd, x.ver, x.key, x.data, x.version, x.e, false⟩ : Pu), dwB wb (u.step r).1, raB ba wv (u.step r).2, raW wv n (u.step r).2]) ([]) (G 0 (mF 24 [])) := fun xb => by
   refine hdone _ _ _ (by kernel_rfl) ?_
   refine W ?_
   exact At.finalX (N' := [dxB xb (⟨x.th, (x.cap : Int), x.wd, x.ver, (u.step r).1.at_, x.key, x.data, 1, -1, 0, -1⟩ : Dx), puB pu Dv (some wb) (some xb) none false (⟨x.th, x.cap, x.wd, x.ver, x.key, x.data, x.version, x.e, false⟩ : Pu), raB ba wv (u.step r).2, raW wv n (u.step r).2]) hds how rfl (.t rfl) sl (⟨rfl, .inr ⟨hz, xb, rfl⟩⟩)
  have g1 : ∀ (xb : Nat), At w 184 [rdE zK dv l0] (fs (F13 xb) 16777215) ([dxB xb (⟨x.th, (x.cap : Int), x.wd, x.ver, (u.step r).1.at_, x.key, x.data, 1, -1, 0, -1⟩ : Dx), puB pu Dv (some wb) none none false (⟨x.th, x.cap, x.wd, x.ver, x.key, x.data, x.version, x.e, false⟩ : Pu), dwB wb (u.step r).1, raB ba wv (u.step r).2, raW wv n (u.step r).2]) ([]) (G 1 (mF 24 [23])) := fun xb => by
   refine hnode _ _ _ _ [(23, [], 0, (mF 24 []))] (by kernel_rfl) kz ?_
   ·
    refine At.st1 rfl rfl sz_142 (.t rfl) (.t rfl) rfl rfl (.n U1) ⟨kz, ?_⟩
    refine W ?_
    exact wk (g0 xb)
  have g2 : ∀ (_ : True), At w 184 [rdE zK dv l0] (fs (F13 0) 9437183) ([puB pu Dv (some wb) none none false (⟨x.th, x.cap, x.wd, x.ver, x.key, x.data, x.version, x.e, false⟩ : Pu), dwB wb (u.step r).1, raB ba wv (u.step r).2, raW wv n (u.step r).2]) ([]) (G 4 (mF 24 [20, 21, 22, 23])) := fun _ => by
   refine hnode _ _ _ _ [(20, [tt 21, tt 22], 1, (mF 24 [23]))] (by kernel_rfl) kz ?_
   ·
    refine cP rfl rfl rfl (.k rfl (.k rfl (.k rfl (.k rfl .nil)))) rfl (dx_New (a := x.th) (b := (x.cap : Int)) (c := x.wd) (d := x.ver) (chunk := (u.step r).1.at_) (key := x.key) (data := x.data)) (fun _ h => nomatch h) (fun v N1 H1 hR => ?_); obtain ⟨xb, rfl, rfl, rfl⟩ := hR; refine ⟨rfl, kz, ?_⟩
    refine W ?_
    exact wk (g1 xb)
  have g3 : ∀ (_ : True), At w 184 [rdE zK dv l0] (fs (F13 0) 8912895) ([puB pu Dv (some wb) none none false (⟨x.th, x.cap, x.wd, x.ver, x.key, x.data, x.version, x.e, false⟩ : Pu), dwB wb (u.step r).1, raB ba wv (u.step r).2, raW wv n (u.step r).2]) ([]) (G 5 (mF 24 [19, 20, 21, 22, 23])) := fun _ => by
   refine hnode _ _ _ _ [(19, [], 4, (mF 24 [20, 21, 22, 23]))] (by kernel_rfl) kz ?_
   ·
    refine WD ?_
    exact wk (g2 trivial)
  have g4 : ∀ (_ : True), At w 184 [rdE zK dv l0] (fs (F13 0) 9404415) ([puB pu Dv (some wb) none none false (⟨x.th, x.cap, x.wd, x.ver, x.key, x.data, x.version, x.e, false⟩ : Pu), dwB wb (u.step r).1, raB ba wv (u.step r).2, raW wv n (u.step r).2]) ([]) (G 5 (mF 24 [15, 20, 21, 22, 23])) := fun _ => by
   refine hnode _ _ _ _ [(15, [], 4, (mF 24 [20, 21, 22, 23]))] (by kernel_rfl) kz ?_
   ·
    refine WD ?_
    exact wk (g2 trivial)
  have g5 : ∀ (_ : True), At w 184 [rdE zK dv l0] (fs (F13 0) 9435135) ([puB pu Dv (some wb) none none false (⟨x.th, x.cap, x.wd, x.ver, x.key, x.data, x.version, x.e, false⟩ : Pu), dwB wb (u.step r).1, raB ba wv (u.step r).2, raW wv n (u.step r).2]) ([]) (G 5 (mF 24 [11, 20, 21, 22, 23])) := fun _ => by
   refine hnode _ _ _ _ [(11, [], 4, (mF 24 [20, 21, 22, 23]))] (by kernel_rfl) kz ?_
   ·
    refine WD ?_
    exact wk (g2 trivial)
  have g6 : ∀ (_ : True), At w 184 [rdE zK dv l0] (fs (F13 0) 9437167) ([puB pu Dv (some wb) none none false (⟨x.th, x.cap, x.wd, x.ver, x.key, x.data, x.version, x.e, false⟩ : Pu), dwB wb (u.step r).1, raB ba wv (u.step r).2, raW wv n (u.step r).2]) ([]) (G 5 (mF 24 [4, 20, 21, 22, 23])) := fun _ => by
   refine hnode _ _ _ _ [(4, [], 4, (mF 24 [20, 21, 22, 23]))] (by kernel_rfl) kz ?_
   ·
    refine WD ?_
    exact wk (g2 trivial)
  have g7 : ∀ (_ : True), At w 184 [rdE zK dv l0] (fs (F13 0) 8880127) ([puB pu Dv (some wb) none none false (⟨x.th, x.cap, x.wd, x.ver, x.key, x.data, x.version, x.e, false⟩ : Pu), dwB wb (u.step r).1, raB ba wv (u.step r).2, raW wv n (u.step r).2]) ([]) (G 6 (mF 24 [15, 19, 20, 21, 22, 23])) := fun _ => by
   refine hnode _ _ _ _ [(15, [], 5, (mF 24 [19, 20, 21, 22, 23])), (19, [], 5, (mF 24 [15, 20, 21, 22, 23]))] (by kernel_rfl) kz ?_
   refine ⟨?_, ?_⟩
   ·
    refine WD ?_
    exact wk (g3 trivial)
   ·
    refine WD ?_
    exact wk (g4 trivial)
  have g8 : ∀ (_ : True), At w 184 [rdE zK dv l0] (fs (F13 0) 8910847) ([puB pu Dv (some wb) none none false (⟨x.th, x.cap, x.wd, x.ver, x.key, x.data, x.version, x.e, false⟩ : Pu), dwB wb (u.step r).1, raB ba wv (u.step r).2, raW wv n (u.step r).2]) ([]) (G 6 (mF 24 [11, 19, 20, 21, 22, 23])) := fun _ => by
   refine hnode _ _ _ _ [(11, [], 5, (mF 24 [19, 20, 21, 22, 23])), (19, [], 5, (mF 24 [11, 20, 21, 22, 23]))] (by kernel_rfl) kz ?_
   refine ⟨?_, ?_⟩
   ·
    refine WD ?_
    exact wk (g3 trivial)
   ·
    refine WD ?_
    exact wk (g5 trivial)
  have g9 : ∀ (_ : True), At w 184 [rdE zK dv l0] (fs (F13 0) 9402367) ([puB pu Dv (some wb) none none false (⟨x.th, x.cap, x.wd, x.ver, x.key, x.data, x.version, x.e, false⟩ : Pu), dwB wb (u.step r).1, raB ba wv (u.step r).2, raW wv n (u.step r).2]) ([]) (G 6 (mF 24 [11, 15, 20, 21, 22, 23])) := fun _ => by
   refine hnode _ _ _ _ [(11, [], 5, (mF 24 [15, 20, 21, 22, 23])), (15, [], 5, (mF 24 [11, 20, 21, 22, 23]))] (by kernel_rfl) kz ?_
   refine ⟨?_, ?_⟩
   ·
    refine WD ?_
    exact wk (g4 trivial)
   ·
    refine WD ?_
    exact wk (g5 trivial)
  have g10 : ∀ (_ : True), At w 184 [rdE zK dv l0] (fs (F13 0) 8912879) ([puB pu Dv (some wb) none none false (⟨x.th, x.cap, x.wd, x.ver, x.key, x.data, x.version, x.e, false⟩ : Pu), dwB wb (u.step r).1, raB ba wv (u.step r).2, raW wv n (u.step r).2]) ([]) (G 6 (mF 24 [4, 19, 20, 21, 22, 23])) := fun _ => by
   refine hnode _ _ _ _ [(4, [], 5, (mF 24 [19, 20, 21, 22, 23])), (19, [], 5, (mF 24 [4, 20, 21, 22, 23]))] (by kernel_rfl) kz ?_
   refine ⟨?_, ?_⟩
   ·
    refine WD ?_
    exact wk (g3 trivial)
   ·
    refine WD ?_
    exact wk (g6 trivial)
  have g11 : ∀ (_ : True), At w 184 [rdE zK dv l0] (fs (F13 0) 9404399) ([puB pu Dv (some wb) none none false (⟨x.th, x.cap, x.wd, x.ver, x.key, x.data, x.version, x.e, false⟩ : Pu), dwB wb (u.step r).1, raB ba wv (u.step r).2, raW wv n (u.step r).2]) ([]) (G 6 (mF 24 [4, 15, 20, 21, 22, 23])) := fun _ => by
   refine hnode _ _ _ _ [(4, [], 5, (mF 24 [15, 20, 21, 22, 23])), (15, [], 5, (mF 24 [4, 20, 21, 22, 23]))] (by kernel_rfl) kz ?_
   refine ⟨?_, ?_⟩
   ·
    refine WD ?_
    exact wk (g4 trivial)
   ·
    refine WD ?_
    exact wk (g6 trivial)
  have g12 : ∀ (_ : True), At w 184 [rdE zK dv l0] (fs (F13 0) 9435119) ([puB pu Dv (some wb) none none false (⟨x.th, x.cap, x.wd, x.ver, x.key, x.data, x.version, x.e, false⟩ : Pu), dwB wb (u.step r).1, raB ba wv (u.step r).2, raW wv n (u.step r).2]) ([]) (G 6 (mF 24 [4, 11, 20, 21, 22, 23])) := fun _ => by
   refine hnode _ _ _ _ [(4, [], 5, (mF 24 [11, 20, 21, 22, 23])), (11, [], 5, (mF 24 [4, 20, 21, 22, 23]))] (by kernel_rfl) kz ?_
   refine ⟨?_, ?_⟩
   ·
    refine WD ?_
    exact wk (g5 trivial)
   ·
    refine WD ?_
    exact wk (g6 trivial)
  have g13 : ∀ (_ : True), At w 184 [rdE zK dv l0] (fs (F13 0) 8878079) ([puB pu Dv (some wb) none none false (⟨x.th, x.cap, x.wd, x.ver, x.key, x.data, x.version, x.e, false⟩ : Pu), dwB wb (u.step r).1, raB ba wv (u.step r).2, raW wv n (u.step r).2]) ([]) (G 7 (mF 24 [11, 15, 19, 20, 21, 22, 23])) := fun _ => by
   refine hnode _ _ _ _ [(11, [], 6, (mF 24 [15, 19, 20, 21, 22, 23])), (15, [], 6, (mF 24 [11, 19, 20, 21, 22, 23])), (19, [], 6, (mF 24 [11, 15, 20, 21, 22, 23]))] (by kernel_rfl) kz ?_
   refine ⟨?_, ?_, ?_⟩
   ·
    refine WD ?_
    exact wk (g7 trivial)
   ·
    refine WD ?_
    exact wk (g8 trivial)
   ·
    refine WD ?_
    exact wk (g9 trivial)
  have g14 : ∀ (_ : True), At w 184 [rdE zK dv l0] (fs (F13 0) 8880111) ([puB pu Dv (some wb) none none false (⟨x.th, x.cap, x.wd, x.ver, x.key, x.data, x.version, x.e, false⟩ : Pu), dwB wb (u.step r).1, raB ba wv (u.step r).2, raW wv n (u.step r).2]) ([]) (G 7 (mF 24 [4, 15, 19, 20, 21, 22, 23])) := fun _ => by
   refine hnode _ _ _ _ [(4, [], 6, (mF 24 [15, 19, 20, 21, 22, 23])), (15, [], 6, (mF 24 [4, 19, 20, 21, 22, 23])), (19, [], 6, (mF 24 [4, 15, 20, 21, 22, 23]))] (by kernel_rfl) kz ?_
   refine ⟨?_, ?_, ?_⟩
   ·
    refine WD ?_
    exact wk (g7 trivial)
   ·
    refine WD ?_
    exact wk (g10 trivial)
   ·
    refine WD ?_
    exact wk (g11 trivial)
  have g15 : ∀ (_ : True), At w 184 [rdE zK dv l0] (fs (F13 0) 8910831) ([puB pu Dv (some wb) none none false (⟨x.th, x.cap, x.wd, x.ver, x.key, x.data, x.version, x.e, false⟩ : Pu), dwB wb (u.step r).1, raB ba wv (u.step r).2, raW wv n (u.step r).2]) ([]) (G 7 (mF 24 [4, 11, 19, 20, 21, 22, 23])) := fun _ => by
   refine hnode _ _ _ _ [(4, [], 6, (mF 24 [11, 19, 20, 21, 22, 23])), (11, [], 6, (mF 24 [4, 19, 20, 21, 22, 23])), (19, [], 6, (mF 24 [4, 11, 20, 21, 22, 23]))] (by kernel_rfl) kz ?_
   refine ⟨?_, ?_, ?_⟩
   ·
    refine WD ?_
    exact wk (g8 trivial)
   ·
    refine WD ?_
    exact wk (g10 trivial)
   ·
    refine WD ?_
    exact wk (g12 trivial)
  have g16 : ∀ (_ : True), At w 184 [rdE zK dv l0] (fs (F13 0) 9402351) ([puB pu Dv (some wb) none none false (⟨x.th, x.cap, x.wd, x.ver, x.key, x.data, x.version, x.e, false⟩ : Pu), dwB wb (u.step r).1, raB ba wv (u.step r).2, raW wv n (u.step r).2]) ([]) (G 7 (mF 24 [4, 11, 15, 20, 21, 22, 23])) := fun _ => by
   refine hnode _ _ _ _ [(4, [], 6, (mF 24 [11, 15, 20, 21, 22, 23])), (11, [], 6, (mF 24 [4, 15, 20, 21, 22, 23])), (15, [], 6, (mF 24 [4, 11, 20, 21, 22, 23]))] (by kernel_rfl) kz ?_
   refine ⟨?_, ?_, ?_⟩
   ·
    refine WD ?_
    exact wk (g9 trivial)
   ·
    refine WD ?_
    exact wk (g11 trivial)
   ·
    refine WD ?_
    exact wk (g12 trivial)
  have g17 : ∀ (_ : True), At w 184 [rdE zK dv l0] (fs (F13 0) 9433343) ([puB pu Dv (some wb) none none false (⟨x.th, x.cap, x.wd, x.ver, x.key, x.data, x.version, x.e, false⟩ : Pu), dwB wb (u.step r).1, raB ba wv (u.step r).2, raW wv n (u.step r).2]) ([]) (G 8 (mF 24 [8, 9, 10, 11, 20, 21, 22, 23])) := fun _ => by
   refine hnode _ _ _ _ [(8, [tt 9, tt 10], 5, (mF 24 [11, 20, 21, 22, 23]))] (by kernel_rfl) kz ?_
   ·
    refine WD ?_
    exact wk (g5 trivial)
  have g18 : ∀ (_ : True), At w 184 [rdE zK dv l0] (fs (F13 0) 8878063) ([puB pu Dv (some wb) none none false (⟨x.th, x.cap, x.wd, x.ver, x.key, x.data, x.version, x.e, false⟩ : Pu), dwB wb (u.step r).1, raB ba wv (u.step r).2, raW wv n (u.step r).2]) ([]) (G 8 (mF 24 [4, 11, 15, 19, 20, 21, 22, 23])) := fun _ => by
   refine hnode _ _ _ _ [(4, [], 7, (mF 24 [11, 15, 19, 20, 21, 22, 23])), (11, [], 7, (mF 24 [4, 15, 19, 20, 21, 22, 23])), (15, [], 7, (mF 24 [4, 11, 19, 20, 21, 22, 23])), (19, [], 7, (mF 24 [4, 11, 15, 20, 21, 22, 23]))] (by kernel_rfl) kz ?_
   refine ⟨?_, ?_, ?_, ?_⟩
   ·
    refine WD ?_
    exact wk (g13 trivial)
   ·
    refine WD ?_
    exact wk (g14 trivial)
   ·
    refine WD ?_
    exact wk (g15 trivial)
   ·
    refine WD ?_
    exact wk (g16 trivial)
  have g19 : ∀ (_ : True), At w 184 [rdE zK dv l0] (fs (F13 0) 8909055) ([puB pu Dv (some wb) none none false (⟨x.th, x.cap, x.wd, x.ver, x.key, x.data, x.version, x.e, false⟩ : Pu), dwB wb (u.step r).1, raB ba wv (u.step r).2, raW wv n (u.step r).2]) ([]) (G 9 (mF 24 [8, 9, 10, 11, 19, 20, 21, 22, 23])) := fun _ => by
   refine hnode _ _ _ _ [(8, [tt 9, tt 10], 6, (mF 24 [11, 19, 20, 21, 22, 23])), (19, [], 8, (mF 24 [8, 9, 10, 11, 20, 21, 22, 23]))] (by kernel_rfl) kz ?_
   refine ⟨?_, ?_⟩
   ·
    refine WD ?_
    exact wk (g8 trivial)
   ·
    refine WD ?_
    exact wk (g17 trivial)
  have g20 : ∀ (_ : True), At w 184 [rdE zK dv l0] (fs (F13 0) 9400575) ([puB pu Dv (some wb) none none false (⟨x.th, x.cap, x.wd, x.ver, x.key, x.data, x.version, x.e, false⟩ : Pu), dwB wb (u.step r).1, raB ba wv (u.step r).2, raW wv n (u.step r).2]) ([]) (G 9 (mF 24 [8, 9, 10, 11, 15, 20, 21, 22, 23])) := fun _ => by
   refine hnode _ _ _ _ [(8, [tt 9, tt 10], 6, (mF 24 [11, 15, 20, 21, 22, 23])), (15, [], 8, (mF 24 [8, 9, 10, 11, 20, 21, 22, 23]))] (by kernel_rfl) kz ?_
   refine ⟨?_, ?_⟩
   ·
    refine WD ?_
    exact wk (g9 trivial)
   ·
    refine WD ?_
    exact wk (g17 trivial)
  have g21 : ∀ (_ : True), At w 184 [rdE zK dv l0] (fs (F13 0) 9433327) ([puB pu Dv (some wb) none none false (⟨x.th, x.cap, x.wd, x.ver, x.key, x.data, x.version, x.e, false⟩ : Pu), dwB wb (u.step r).1, raB ba wv (u.step r).2, raW wv n (u.step r).2]) ([]) (G 9 (mF 24 [4, 8, 9, 10, 11, 20, 21, 22, 23])) := fun _ => by
   refine hnode _ _ _ _ [(4, [], 8, (mF 24 [8, 9, 10, 11, 20, 21, 22, 23])), (8, [tt 9, tt 10], 6, (mF 24 [4, 11, 20, 21, 22, 23]))] (by kernel_rfl) kz ?_
   refine ⟨?_, ?_⟩
   ·
    refine WD ?_
    exact wk (g17 trivial)
   ·
    refine WD ?_
    exact wk (g12 trivial)
  have g22 : ∀ (_ : True), At w 184 [rdE zK dv l0] (fs (F13 0) 8876287) ([puB pu Dv (some wb) none none false (⟨x.th, x.cap, x.wd, x.ver, x.key, x.data, x.version, x.e, false⟩ : Pu), dwB wb (u.step r).1, raB ba wv (u.step r).2, raW wv n (u.step r).2]) ([]) (G 10 (mF 24 [8, 9, 10, 11, 15, 19, 20, 21, 22, 23])) := fun _ => by
   refine hnode _ _ _ _ [(8, [tt 9, tt 10], 7, (mF 24 [11, 15, 19, 20, 21, 22, 23])), (15, [], 9, (mF 24 [8, 9, 10, 11, 19, 20, 21, 22, 23])), (19, [], 9, (mF 24 [8, 9, 10, 11, 15, 20, 21, 22, 23]))] (by kernel_rfl) kz ?_
   refine ⟨?_, ?_, ?_⟩
   ·
    refine WD ?_
    exact wk (g13 trivial)
   ·
    refine WD ?_
    exact wk (g19 trivial)
   ·
    refine WD ?_
    exact wk (g20 trivial)
  have g23 : ∀ (_ : True), At w 184 [rdE zK dv l0] (fs (F13 0) 8909039) ([puB pu Dv (some wb) none none false (⟨x.th, x.cap, x.wd, x.ver, x.key, x.data, x.version, x.e, false⟩ : Pu), dwB wb (u.step r).1, raB ba wv (u.step r).2, raW wv n (u.step r).2]) ([]) (G 10 (mF 24 [4, 8, 9, 10, 11, 19, 20, 21, 22, 23])) := fun _ => by
   refine hnode _ _ _ _ [(4, [], 9, (mF 24 [8, 9, 10, 11, 19, 20, 21, 22, 23])), (8, [tt 9, tt 10], 7, (mF 24 [4, 11, 19, 20, 21, 22, 23])), (19, [], 9, (mF 24 [4, 8, 9, 10, 11, 20, 21, 22, 23]))] (by kernel_rfl) kz ?_
   refine ⟨?_, ?_, ?_⟩
   ·
    refine WD ?_
    exact wk (g19 trivial)
   ·
    refine WD ?_
    exact wk (g15 trivial)
   ·
    refine WD ?_
    exact wk (g21 trivial)
  have g24 : ∀ (_ : True), At w 184 [rdE zK dv l0] (fs (F13 0) 9400559) ([puB pu Dv (some wb) none none false (⟨x.th, x.cap, x.wd, x.ver, x.key, x.data, x.version, x.e, false⟩ : Pu), dwB wb (u.step r).1, raB ba wv (u.step r).2, raW wv n (u.step r).2]) ([]) (G 10 (mF 24 [4, 8, 9, 10, 11, 15, 20, 21, 22, 23])) := fun _ => by
   refine hnode _ _ _ _ [(4, [], 9, (mF 24 [8, 9, 10, 11, 15, 20, 21, 22, 23])), (8, [tt 9, tt 10], 7, (mF 24 [4, 11, 15, 20, 21, 22, 23])), (15, [], 9, (mF 24 [4, 8, 9, 10, 11, 20, 21, 22, 23]))] (by kernel_rfl) kz ?_
   refine ⟨?_, ?_, ?_⟩
   ·
    refine WD ?_
    exact wk (g20 trivial)
   ·
    refine WD ?_
    exact wk (g16 trivial)
   ·
    refine WD ?_
    exact wk (g21 trivial)
  have g25 : ∀ (_ : True), At w 184 [rdE zK dv l0] (fs (F13 0) 8876271) ([puB pu Dv (some wb) none none false (⟨x.th, x.cap, x.wd, x.ver, x.key, x.data, x.version, x.e, false⟩ : Pu), dwB wb (u.step r).1, raB ba wv (u.step r).2, raW wv n (u.step r).2]) ([]) (G 11 (mF 24 [4, 8, 9, 10, 11, 15, 19, 20, 21, 22, 23])) := fun _ => by
   refine hnode _ _ _ _ [(4, [], 10, (mF 24 [8, 9, 10, 11, 15, 19, 20, 21, 22, 23])), (8, [tt 9, tt 10], 8, (mF 24 [4, 11, 15, 19, 20, 21, 22, 23])), (15, [], 10, (mF 24 [4, 8, 9, 10, 11, 19, 20, 21, 22, 23])), (19, [], 10, (mF 24 [4, 8, 9, 10, 11, 15, 20, 21, 22, 23]))] (by kernel_rfl) kz ?_
   refine ⟨?_, ?_, ?_, ?_⟩
   ·
    refine WD ?_
    exact wk (g22 trivial)
   ·
    refine WD ?_
    exact wk (g18 trivial)
   ·
    refine WD ?_
    exact wk (g23 trivial)
   ·
    refine WD ?_
    exact wk (g24 trivial)
  refine W ?_
  exact wk (g25 trivial)
 ·
  have hz : ¬ (u.step r).1.line = 0 := (by simpa using c4)
  refine W ?_
  exact At.finalX (N' := [puB pu Dv (some wb) none none false (⟨x.th, x.cap, x.wd, x.ver, x.key, x.data, x.version, x.e, false⟩ : Pu), dwB wb (u.step r).1, raB ba wv (u.step r).2, raW wv n (u.step r).2]) hds how rfl (.t rfl) (List.Sublist.refl _) (⟨rfl, .inl ⟨hz, rfl⟩⟩)
end Go.Proofs.YtbolanigdkgbdaaGreat
namespace Go.Proofs.YtbolanigdkgbdaaGreat
open Go Go.RowKit
set_option maxRecDepth 10000
set_option linter.unusedVariables false
set_option linter.unnecessarySimpa false
set_option linter.unusedSectionVars false
set_option maxHeartbeats 1000000
theorem fo_145_3 : fieldOff? Tryz.prog 145 3 = some 6 := by kernel_rfl
theorem fo_145_8 : fieldOff? Tryz.prog 145 8 = some 11 := by kernel_rfl
theorem fo_145_9 : fieldOff? Tryz.prog 145 9 = some 12 := by kernel_rfl
theorem sz_143 : (Tryz.prog.info? 143).map (·.size) = some 1 := by kernel_rfl
theorem pu_StepX {pu ba n : Nat} {dv wv Dv : Value} {l0 l : List Int} {x : Pu} {r : Rr} {wp : Option Nat} {xb : Nat} {q : Dx} (hD : DrO dv l0 Dv l) (hq : q.ok) (hn : r.w.length = n) (hN : n ≤ 1000000) (hf : r.few) (hw : r.mid 1152921504606846976) : FnX Tryz.prog 103 [.pointer (some ⟨pu, 0, none⟩), .pointer (some ⟨ba, 0, none⟩)] ([rdE zK dv l0]) ([puB pu Dv wp (some xb) none false x, dxB xb q, raB ba wv r, raW wv n r]) (fun v N => ∃ pl, (¬ (q.step r).1.line = 0 ∧ v = .bool false ∧ N = [puB pu Dv wp (some xb) none false (⟨x.th, x.cap, x.wd, x.ver, x.key, x.data, x.version, x.e, pl⟩ : Pu), dxB xb (q.step r).1, raB ba wv (q.step r).2, raW wv n (q.step r).2]) ∨ (v = .bool true ∧ N = [puB pu Dv wp (some xb) none true (⟨x.th, x.cap, x.wd, x.ver, x.key, x.data, ((q.step r).1.version), x.e, pl⟩ : Pu), dxB xb (q.step r).1, raB ba wv (q.step r).2, raW wv n (q.step r).2]) ∨ (v = .bool false ∧ ∃ mb vb fb lp dr, N = [rowE sK 187 vb ([ptS fb]), frB fb (q.step r).1.chunk 1 lp none none none none 0, ddB lp (⟨x.th, (x.cap : Int), x.wd, x.ver, (q.step r).1.chunk, dr, false, 1, 0, 0, 0, 0, false, 0⟩ : Dd), meB mb Dv vb (⟨x.th, x.cap, x.wd, x.ver, 0⟩ : Me), puB pu Dv wp (some xb) (some mb) false (⟨x.th, x.cap, x.wd, x.ver, x.key, x.data, x.version, x.e, pl⟩ : Pu), dxB xb (q.step r).1, raB ba wv (q.step r).2, raW wv n (q.step r).2])) := by
 refine FnX.enter Tryz.func103 (by kernel_rfl) rfl (n := 184) rfl rfl (fun w df hds how => ?_)
 refine W ?_
 refine At.st1 rfl rfl sz_4 (.t rfl) .c rfl rfl (.n U0) ⟨.all, ?_⟩
 refine W ?_
 refine eA rfl (R.neqNilP Tryz.underlying143 (.t rfl)) ?_
 refine W ?_
 refine eA rfl (R.neqNilP Tryz.underlying142 (.t rfl)) ?_
 refine W ?_
 refine cM rfl rfl rfl (.k rfl (.k rfl .nil)) rfl (.n (.skip (.take (.take (.take .nil))))) .nil (dx_Step (x := q) (r := r) hq hn hN hf hw) rfl .nil ⟨.all, ?_⟩
 refine W ?_
 refine At.condD (.t rfl) (fun c4 => ?_) (fun c4 => ?_)
 ·
  have hz : (q.step r).1.line = 0 := (by simpa using c4)
  refine Z ?_
  refine At.condD (.t rfl) (fun c5 => ?_) (fun c5 => ?_)
  ·
   refine W ?_
   refine At.st1 rfl rfl sz_3 (.t rfl) (.t rfl) rfl rfl (.n U0) ⟨.all, ?_⟩
   refine W ?_
   refine At.st1 rfl rfl sz_4 (.t rfl) .c rfl rfl (.n U0) ⟨.all, ?_⟩
   refine Z ?_
   refine At.st1 rfl rfl sz_4 (.t rfl) (.t rfl) rfl rfl (.n U0) ⟨.all, ?_⟩
   refine W ?_
   exact At.finalX (N' := [puB pu Dv wp (some xb) none true (⟨x.th, x.cap, x.wd, x.ver, x.key, x.data, ((q.step r).1.version), x.e, (decide (q.i < 0) && decide (0 ≤ (q.step r).1.i))⟩ : Pu), dxB xb (q.step r).1, raB ba wv (q.step r).2, raW wv n (q.step r).2]) hds how rfl (.t rfl) (List.Sublist.refl _) (⟨_, .inr (.inl ⟨rfl, rfl⟩)⟩)
  ·
   let F25 : Nat → Fr := fun mb => [(116, pt pu 0), (117, pt pu 0), (118, pt pu 0), (119, pt pu 0), (120, true, .agg #[.int .i64 x.th, .int .i64 (x.cap : Int), .int .i64 x.wd, .int .i64 x.ver]), (121, pt pu 0), (122, pt pu 0), (123, pt pu 8), (124, pt xb 0), (125, pt xb 0), (126, pt xb 4), (127, true, .int .i64 (q.step r).1.chunk), (128, pt pu 0), (129, pt pu 0), (130, pt pu 6), (131, true, Dv), (132, pt mb 0), (133, pt pu 0), (134, pt pu 9), (0, pt pu 0), (6, iv q.i)]
   refine At.dag [tt 0, tt 1, tt 2, tt 3, tt 5, tt 6, tt 7, tt 12, tt 13, tt 14] 10 (mF 20 [4, 8, 9, 10, 11, 15, 16, 17, 18, 19]) ([rdE zK dv l0]) (keepOf sl) (by kernel_rfl) (by kernel_rfl) (fun G hnode hdone => ?_)
   have g0 : ∀ (mb : Nat) (vb : Value) (fb lp : Nat) (dr : Bool), At w 184 [rdE zK dv l0] (fs (F25 mb) 2097151) ([rowE sK 187 vb ([ptS fb]), frB fb (q.step r).1.chunk 1 lp none none none none 0, ddB lp (⟨x.th, (x.cap : Int), x.wd, x.ver, (q.step r).1.chunk, dr, false, 1, 0, 0, 0, 0, false, 0⟩ : Dd), meB mb Dv vb (⟨x.th, x.cap, x.wd, x.ver, 0⟩ : Me), puB pu Dv wp (some xb) (some mb) false (⟨x.th, x.cap, x.wd, x.ver, x.key, x.data, x.version, x.e, false⟩ : Pu), dxB xb (q.step r).1, raB ba wv (q.step r).2, raW wv n (q.step r).2]) ([]) (G 0 (mF 20 [])) := fun mb vb fb lp dr => by
    refine hdone _ _ _ (by kernel_rfl) ?_
    refine Z ?_
    refine At.st1 rfl rfl sz_4 (.t rfl) (.t rfl) rfl rfl (.n U4) ⟨.all, ?_⟩
    refine W ?_
    exact At.finalX (N' := [rowE sK 187 vb ([ptS fb]), frB fb (q.step r).1.chunk 1 lp none none none none 0, ddB lp (⟨x.th, (x.cap : Int), x.wd, x.ver, (q.step r).1.chunk, dr, false, 1, 0, 0, 0, 0, false, 0⟩ : Dd), meB mb Dv vb (⟨x.th, x.cap, x.wd, x.ver, 0⟩ : Me), puB pu Dv wp (some xb) (some mb) false (⟨x.th, x.cap, x.wd, x.ver, x.key, x.data, x.version, x.e, (decide (q.i < 0) && decide (0 ≤ (q.step r).1.i))⟩ : Pu), dxB xb (q.step r).1, raB ba wv (q.step r).2, raW wv n (q.step r).2]) hds how rfl (.t rfl) (List.Sublist.refl _) (⟨_, .inr (.inr ⟨rfl, mb, vb, fb, lp, dr, rfl⟩)⟩)
   have g1 : ∀ (mb : Nat) (vb : Value) (fb lp : Nat) (dr : Bool), At w 184 [rdE zK dv l0] (fs (F25 mb) 2097151) ([rowE sK 187 vb ([ptS fb]), frB fb (q.step r).1.chunk 1 lp none none none none 0, ddB lp (⟨x.th, (x.cap : Int), x.wd, x.ver, (q.step r).1.chunk, dr, false, 1, 0, 0, 0, 0, false, 0⟩ : Dd), meB mb Dv vb (⟨x.th, x.cap, x.wd, x.ver, 0⟩ : Me), puB pu Dv wp (some xb) none false (⟨x.th, x.cap, x.wd, x.ver, x.key, x.data, x.version, x.e, false⟩ : Pu), dxB xb (q.step r).1, raB ba wv (q.step r).2, raW wv n (q.step r).2]) ([]) (G 1 (mF 20 [19])) := fun mb vb fb lp dr => by
    refine hnode _ _ _ _ [(19, [], 0, (mF 20 []))] (by kernel_rfl) kz ?_
    ·
     refine At.st1 rfl rfl sz_143 (.t rfl) (.t rfl) rfl rfl (.n U4) ⟨kz, ?_⟩
     refine W ?_
     exact wk (g0 mb vb fb lp dr)
   have g2 : ∀ (_ : True), At w 184 [rdE zK dv l0] (fs (F25 0) 1638399) ([puB pu Dv wp (some xb) none false (⟨x.th, x.cap, x.wd, x.ver, x.key, x.data, x.version, x.e, false⟩ : Pu), dxB xb (q.step r).1, raB ba wv (q.step r).2, raW wv n (q.step r).2]) ([]) (G 4 (mF 20 [16, 17, 18, 19])) := fun _ => by
    refine hnode _ _ _ _ [(16, [tt 17, tt 18], 1, (mF 20 [19]))] (by kernel_rfl) kz ?_
    ·
     refine cX rfl rfl rfl (.k rfl (.k rfl (.k rfl .nil))) rfl .nil (.cons (rS M0) .nil) (me_New (th := x.th) (cap := x.cap) (wd := x.wd) (ver := x.ver) (at_ := (q.step r).1.chunk) hD) (Aprt.ofPick .nil) (fun v B hR => ?_); obtain ⟨mb, vb, fb, lp, dr, rfl, rfl⟩ := hR; refine ⟨kz, ?_⟩
     refine W ?_
     exact wk (g1 mb vb fb lp dr)
   have g3 : ∀ (_ : True), At w 184 [rdE zK dv l0] (fs (F25 0) 1605631) ([puB pu Dv wp (some xb) none false (⟨x.th, x.cap, x.wd, x.ver, x.key, x.data, x.version, x.e, false⟩ : Pu), dxB xb (q.step r).1, raB ba wv (q.step r).2, raW wv n (q.step r).2]) ([]) (G 5 (mF 20 [15, 16, 17, 18, 19])) := fun _ => by
    refine hnode _ _ _ _ [(15, [], 4, (mF 20 [16, 17, 18, 19]))] (by kernel_rfl) kz ?_
    ·
     refine WD ?_
     exact wk (g2 trivial)
   have g4 : ∀ (_ : True), At w 184 [rdE zK dv l0] (fs (F25 0) 1636351) ([puB pu Dv wp (some xb) none false (⟨x.th, x.cap, x.wd, x.ver, x.key, x.data, x.version, x.e, false⟩ : Pu), dxB xb (q.step r).1, raB ba wv (q.step r).2, raW wv n (q.step r).2]) ([]) (G 5 (mF 20 [11, 16, 17, 18, 19])) := fun _ => by
    refine hnode _ _ _ _ [(11, [], 4, (mF 20 [16, 17, 18, 19]))] (by kernel_rfl) kz ?_
    ·
     refine WD ?_
     exact wk (g2 trivial)
   have g5 : ∀ (_ : True), At w 184 [rdE zK dv l0] (fs (F25 0) 1638383) ([puB pu Dv wp (some xb) none false (⟨x.th, x.cap, x.wd, x.ver, x.key, x.data, x.version, x.e, false⟩ : Pu), dxB xb (q.step r).1, raB ba wv (q.step r).2, raW wv n (q.step r).2]) ([]) (G 5 (mF 20 [4, 16, 17, 18, 19])) := fun _ => by
    refine hnode _ _ _ _ [(4, [], 4, (mF 20 [16, 17, 18, 19]))] (by kernel_rfl) kz ?_
    ·
     refine WD ?_
     exact wk (g2 trivial)
   have g6 : ∀ (_ : True), At w 184 [rdE zK dv l0] (fs (F25 0) 1603583) ([puB pu Dv wp (some xb) none false (⟨x.th, x.cap, x.wd, x.ver, x.key, x.data, x.version, x.e, false⟩ : Pu), dxB xb (q.step r).1, raB ba wv (q.step r).2, raW wv n (q.step r).2]) ([]) (G 6 (mF 20 [11, 15, 16, 17, 18, 19])) := fun _ => by
    refine hnode _ _ _ _ [(11, [], 5, (mF 20 [15, 16, 17, 18, 19])), (15, [], 5, (mF 20 [11, 16, 17, 18, 19]))] (by kernel_rfl) kz ?_
    refine ⟨?_, ?_⟩
    ·
     refine WD ?_
     exact wk (g3 trivial)
    ·
     refine WD ?_
     exact wk (g4 trivial)
   have g7 : ∀ (_ : True), At w 184 [rdE zK dv l0] (fs (F25 0) 1605615) ([puB pu Dv wp (some xb) none false (⟨x.th, x.cap, x.wd, x.ver, x.key, x.data, x.version, x.e, false⟩ : Pu), dxB xb (q.step r).1, raB ba wv (q.step r).2, raW wv n (q.step r).2]) ([]) (G 6 (mF 20 [4, 15, 16, 17, 18, 19])) := fun _ => by
    refine hnode _ _ _ _ [(4, [], 5, (mF 20 [15, 16, 17, 18, 19])), (15, [], 5, (mF 20 [4, 16, 17, 18, 19]))] (by kernel_rfl) kz ?_
    refine ⟨?_, ?_⟩
    ·
     refine WD ?_
     exact wk (g3 trivial)
    ·
     refine WD ?_
     exact wk (g5 trivial)
   have g8 : ∀ (_ : True), At w 184 [rdE zK dv l0] (fs (F25 0) 1636335) ([puB pu Dv wp (some xb) none false (⟨x.th, x.cap, x.wd, x.ver, x.key, x.data, x.version, x.e, false⟩ : Pu), dxB xb (q.step r).1, raB ba wv (q.step r).2, raW wv n (q.step r).2]) ([]) (G 6 (mF 20 [4, 11, 16, 17, 18, 19])) := fun _ => by
    refine hnode _ _ _ _ [(4, [], 5, (mF 20 [11, 16, 17, 18, 19])), (11, [], 5, (mF 20 [4, 16, 17, 18, 19]))] (by kernel_rfl) kz ?_
    refine ⟨?_, ?_⟩
    ·
     refine WD ?_
     exact wk (g4 trivial)
    ·
     refine WD ?_
     exact wk (g5 trivial)
   have g9 : ∀ (_ : True), At w 184 [rdE zK dv l0] (fs (F25 0) 1603567) ([puB pu Dv wp (some xb) none false (⟨x.th, x.cap, x.wd, x.ver, x.key, x.data, x.version, x.e, false⟩ : Pu), dxB xb (q.step r).1, raB ba wv (q.step r).2, raW wv n (q.step r).2]) ([]) (G 7 (mF 20 [4, 11, 15, 16, 17, 18, 19])) := fun _ => by
    refine hnode _ _ _ _ [(4, [], 6, (mF 20 [11, 15, 16, 17, 18, 19])), (11, [], 6, (mF 20 [4, 15, 16, 17, 18, 19])), (15, [], 6, (mF 20 [4, 11, 16, 17, 18, 19]))] (by kernel_rfl) kz ?_
    refine ⟨?_, ?_, ?_⟩
    ·
     refine WD ?_
     exact wk (g6 trivial)
    ·
     refine WD ?_
     exact wk (g7 trivial)
    ·
     refine WD ?_
     exact wk (g8 trivial)
   have g10 : ∀ (_ : True), At w 184 [rdE zK dv l0] (fs (F25 0) 1634559) ([puB pu Dv wp (some xb) none false (⟨x.th, x.cap, x.wd, x.ver, x.key, x.data, x.version, x.e, false⟩ : Pu), dxB xb (q.step r).1, raB ba wv (q.step r).2, raW wv n (q.step r).2]) ([]) (G 8 (mF 20 [8, 9, 10, 11, 16, 17, 18, 19])) := fun _ => by
    refine hnode _ _ _ _ [(8, [tt 9, tt 10], 5, (mF 20 [11, 16, 17, 18, 19]))] (by kernel_rfl) kz ?_
    ·
     refine WD ?_
     exact wk (g4 trivial)
   have g11 : ∀ (_ : True), At w 184 [rdE zK dv l0] (fs (F25 0) 1601791) ([puB pu Dv wp (some xb) none false (⟨x.th, x.cap, x.wd, x.ver, x.key, x.data, x.version, x.e, false⟩ : Pu), dxB xb (q.step r).1, raB ba wv (q.step r).2, raW wv n (q.step r).2]) ([]) (G 9 (mF 20 [8, 9, 10, 11, 15, 16, 17, 18, 19])) := fun _ => by
    refine hnode _ _ _ _ [(8, [tt 9, tt 10], 6, (mF 20 [11, 15, 16, 17, 18, 19])), (15, [], 8, (mF 20 [8, 9, 10, 11, 16, 17, 18, 19]))] (by kernel_rfl) kz ?_
    refine ⟨?_, ?_⟩
    ·
     refine WD ?_
     exact wk (g6 trivial)
    ·
     refine WD ?_
     exact wk (g10 trivial)
   have g12 : ∀ (_ : True), At w 184 [rdE zK dv l0] (fs (F25 0) 1634543) ([puB pu Dv wp (some xb) none false (⟨x.th, x.cap, x.wd, x.ver, x.key, x.data, x.version, x.e, false⟩ : Pu), dxB xb (q.step r).1, raB ba wv (q.step r).2, raW wv n (q.step r).2]) ([]) (G 9 (mF 20 [4, 8, 9, 10, 11, 16, 17, 18, 19])) := fun _ => by
    refine hnode _ _ _ _ [(4, [], 8, (mF 20 [8, 9, 10, 11, 16, 17, 18, 19])), (8, [tt 9, tt 10], 6, (mF 20 [4, 11, 16, 17, 18, 19]))] (by kernel_rfl) kz ?_
    refine ⟨?_, ?_⟩
    ·
     refine WD ?_
     exact wk (g10 trivial)
    ·
     refine WD ?_
     exact wk (g8 trivial)
   have g13 : ∀ (_ : True), At w 184 [rdE zK dv l0] (fs (F25 0) 1601775) ([puB pu Dv wp (some xb) none false (⟨x.th, x.cap, x.wd, x.ver, x.key, x.data, x.version, x.e, false⟩ : Pu), dxB xb (q.step r).1, raB ba wv (q.step r).2, raW wv n (q.step r).2]) ([]) (G 10 (mF 20 [4, 8, 9, 10, 11, 15, 16, 17, 18, 19])) := fun _ => by
    refine hnode _ _ _ _ [(4, [], 9, (mF 20 [8, 9, 10, 11, 15, 16, 17, 18, 19])), (8, [tt 9, tt 10], 7, (mF 20 [4, 11, 15, 16, 17, 18, 19])), (15, [], 9, (mF 20 [4, 8, 9, 10, 11, 16, 17, 18, 19]))] (by kernel_rfl) kz ?_
    refine ⟨?_, ?_, ?_⟩
    ·
     refine WD ?_
     exact wk (g11 trivial)
    ·
     refine WD ?_
     exact wk (g9 trivial)
    ·
     refine WD ?_
     exact wk (g12 trivial)
   refine W ?_
   exact wk (g13 trivial)
 ·
  have hz : ¬ (q.step r).1.line = 0 := (by simpa using c4)
  refine Z ?_
  refine At.st1 rfl rfl sz_4 (.t rfl) (.t rfl) rfl rfl (.n U0) ⟨.all, ?_⟩
  refine W ?_
  exact At.finalX (N' := [puB pu Dv wp (some xb) none false (⟨x.th, x.cap, x.wd, x.ver, x.key, x.data, x.version, x.e, (decide (q.i < 0) && decide (0 ≤ (q.step r).1.i))⟩ : Pu), dxB xb (q.step r).1, raB ba wv (q.step r).2, raW wv n (q.step r).2]) hds how rfl (.t rfl) (List.Sublist.refl _) (⟨_, .inl ⟨hz, rfl, rfl⟩⟩)
theorem pu_StepM {pu ba n : Nat} {dv wv Dv : Value} {l0 l : List Int} {x : Pu} {r : Rr} {k mb : Nat} {Dm Fm : Value} {y : Me} {wp xp : Option Nat} {NR : Hp} (hD : DrO dv l0 Dm l) (hy : y.ok) (hT : MeT k Fm NR) (hr : r.okk n k) (hN : n ≤ 1000000) (hk : k ≤ 800000) : FnX Tryz.prog 103 [.pointer (some ⟨pu, 0, none⟩), .pointer (some ⟨ba, 0, none⟩)] ([rdE zK dv l0]) (puB pu Dv wp xp (some mb) false x :: raB ba wv r :: raW wv n r :: meB mb Dm Fm y :: NR) (fun v N => ∃ (r2 : Rr) (y2 : Me) (D2 F2 : Value) (l2 : List Int) (NR2 : Hp), r2.okk n (k + 1) ∧ DrO dv l0 D2 l2 ∧ ((v = .bool false ∧ y2 = y ∧ MeT (k + 1) F2 NR2 ∧ N = puB pu D2 wp xp (some mb) false (⟨x.th, x.cap, x.wd, x.ver, x.key, x.data, x.version, x.e, false⟩ : Pu) :: raB ba wv r2 :: raW wv n r2 :: meB mb D2 F2 y2 :: NR2) ∨ (∃ wb ev ov, v = .bool ov ∧ N = [dwB wb (⟨x.th, (x.cap : Int), x.wd, x.ver, x.key, 1, 0, 0, 0, 0⟩ : Dw), puB pu D2 (some wb) none none ov (⟨x.th, x.cap, x.wd, x.ver, x.key, x.data, x.version, ev, false⟩ : Pu), raB ba wv r2, raW wv n r2]))) := by
 refine FnX.enter Tryz.func103 (by kernel_rfl) rfl (n := 184) rfl rfl (fun w df hds how => ?_)
 refine W ?_
 refine At.st1 rfl rfl sz_4 (.t rfl) .c rfl rfl (.n U0) ⟨.all, ?_⟩
 refine W ?_
 refine eA rfl (R.neqNilP Tryz.underlying143 (.t rfl)) ?_
 refine W ?_
 refine cX rfl rfl rfl (.k rfl (.k rfl .nil)) rfl (.skip .all) (.cons (rS M0) .nil) (me_Step (wv := wv) (ba := ba) hD hy hT hr hN hk) (Aprt.ofPick (.skip .all)) (fun v B hR => ⟨.all, ?_⟩); obtain ⟨e, r2, y2, D2, F2, l2, NR2, rfl, rfl, hr2, hD2, he0, he1⟩ := hR; refine At.perm List.perm_append_comm ?_; refine At.re (N' := puB pu Dv wp xp (some mb) false (⟨x.th, x.cap, x.wd, x.ver, x.key, x.data, x.version, x.e, false⟩ : Pu) :: raB ba wv r2 :: raW wv n r2 :: meB mb D2 F2 y2 :: NR2) rfl ?_; refine At.sliceForm (drS hD2) (fun sA2 scap2 hsv2 _ _ => ?_); subst hsv2
 refine W ?_
 refine At.st1 rfl rfl sz_25 (.t rfl) (.t rfl) rfl rfl (.n U0) ⟨.all, ?_⟩
 refine W ?_
 refine At.cond (.t rfl) (fun c3 => ?_) (fun c3 => ?_)
 ·
  obtain rfl := he1 c3
  refine W ?_
  let F14 : Fr := [(37, pt pu 0), (38, pt pu 0), (39, pt pu 0), (40, pt pu 0), (41, pt pu 9), (42, pt mb 0), (43, pt mb 0), (44, pt mb 6), (45, iv y2.e), (46, pt pu 0), (47, pt pu 0), (48, pt pu 9), (49, pt mb 0), (50, pt mb 0), (51, pt mb 6), (52, iv y2.e), (53, bv (!decide (y2.e = 0))), (54, pt pu 0), (55, pt pu 12), (56, pt pu 0), (57, pt pu 10), (0, pt pu 0)]
  refine At.dag [tt 0, tt 1, tt 2, tt 3, tt 4, tt 9, tt 10, tt 11] 15 (mT 23 [0, 1, 2, 3, 4, 9, 10, 11]) ([rdE zK dv l0]) (keepOf sl) (by kernel_rfl) (by kernel_rfl) (fun G hnode hdone => ?_)
  have g0 : ∀ (_ : True), At w 184 [rdE zK dv l0] (fs F14 4194303) ([puB pu (.slice sA2 l2.length scap2) wp xp (some mb) (!decide (y2.e = 0)) (⟨x.th, x.cap, x.wd, x.ver, x.key, x.data, x.version, (y2.e), false⟩ : Pu), raB ba wv r2, raW wv n r2, meB mb (.slice sA2 l2.length scap2) F2 y2]) ([]) (G 0 (mF 23 [])) := fun _ => by
   refine hdone _ _ _ (by kernel_rfl) ?_
   refine W ?_
   let F19 : Nat → Fr := fun wb => [(58, pt pu 0), (59, pt pu 0), (60, pt pu 0), (61, pt pu 0), (62, pt pu 0), (63, pt pu 0), (64, true, .agg #[.int .i64 x.th, .int .i64 (x.cap : Int), .int .i64 x.wd, .int .i64 x.ver]), (65, pt pu 0), (66, pt pu 0), (67, pt pu 4), (68, iv x.key), (69, pt wb 0), (70, pt pu 0), (71, pt pu 9), (72, pt pu 0), (73, pt pu 8), (74, pt pu 0), (75, pt pu 7), (0, pt pu 0)]
   refine At.dag [tt 0, tt 1, tt 2, tt 3, tt 4, tt 5, tt 7, tt 8, tt 9] 12 (mT 21 [0, 1, 2, 3, 4, 5, 7, 8, 9]) ([rdE zK dv l0]) (keepOf sl) (by kernel_rfl) (by kernel_rfl) (fun G hnode hdone => ?_)
   have g0 : ∀ (wb : Nat), At w 184 [rdE zK dv l0] (fs (F19 wb) 524287) ([dwB wb (⟨x.th, (x.cap : Int), x.wd, x.ver, x.key, 1, 0, 0, 0, 0⟩ : Dw), puB pu (.slice sA2 l2.length scap2) (some wb) none none (!decide (y2.e = 0)) (⟨x.th, x.cap, x.wd, x.ver, x.key, x.data, x.version, (y2.e), false⟩ : Pu), raB ba wv r2, raW wv n r2]) ([]) (G 0 (mF 21 [])) := fun wb => by
    refine hdone _ _ _ (by kernel_rfl) ?_
    refine W ?_
    exact At.finalX (N' := [dwB wb (⟨x.th, (x.cap : Int), x.wd, x.ver, x.key, 1, 0, 0, 0, 0⟩ : Dw), puB pu _ (some wb) none none _ (⟨x.th, x.cap, x.wd, x.ver, x.key, x.data, x.version, _, false⟩ : Pu), raB ba wv r2, raW wv n r2]) hds how rfl (.t rfl) (List.Sublist.refl _) (⟨r2, y2, _, F2, l2, [], hr2, hD2, .inr ⟨wb, _, _, rfl, rfl⟩⟩)
   have g1 : ∀ (wb : Nat), At w 184 [rdE zK dv l0] (fs (F19 wb) 524287) ([dwB wb (⟨x.th, (x.cap : Int), x.wd, x.ver, x.key, 1, 0, 0, 0, 0⟩ : Dw), puB pu (.slice sA2 l2.length scap2) wp none none (!decide (y2.e = 0)) (⟨x.th, x.cap, x.wd, x.ver, x.key, x.data, x.version, (y2.e), false⟩ : Pu), raB ba wv r2, raW wv n r2]) ([]) (G 1 (mF 21 [20])) := fun wb => by
    refine hnode _ _ _ _ [(20, [], 0, (mF 21 []))] (by kernel_rfl) kz ?_
    ·
     refine At.st1 rfl rfl sz_141 (.t rfl) (.t rfl) rfl rfl (.n U1) ⟨kz, ?_⟩
     refine W ?_
     exact wk (g0 wb)
   have g2 : ∀ (wb : Nat), At w 184 [rdE zK dv l0] (fs (F19 wb) 327679) ([dwB wb (⟨x.th, (x.cap : Int), x.wd, x.ver, x.key, 1, 0, 0, 0, 0⟩ : Dw), puB pu (.slice sA2 l2.length scap2) wp xp none (!decide (y2.e = 0)) (⟨x.th, x.cap, x.wd, x.ver, x.key, x.data, x.version, (y2.e), false⟩ : Pu), raB ba wv r2, raW wv n r2]) ([]) (G 4 (mF 21 [17, 18, 19, 20])) := fun wb => by
    refine hnode _ _ _ _ [(17, [tt 18, tt 19], 1, (mF 21 [20]))] (by kernel_rfl) kz ?_
    ·
     refine At.st1 rfl rfl sz_142 (.t rfl) .c rfl rfl (.n U1) ⟨kz, ?_⟩
     refine W ?_
     exact wk (g1 wb)
   have g3 : ∀ (wb : Nat), At w 184 [rdE zK dv l0] (fs (F19 wb) 278527) ([dwB wb (⟨x.th, (x.cap : Int), x.wd, x.ver, x.key, 1, 0, 0, 0, 0⟩ : Dw), puB pu (.slice sA2 l2.length scap2) wp xp (some mb) (!decide (y2.e = 0)) (⟨x.th, x.cap, x.wd, x.ver, x.key, x.data, x.version, (y2.e), false⟩ : Pu), raB ba wv r2, raW wv n r2]) ([]) (G 7 (mF 21 [14, 15, 16, 17, 18, 19, 20])) := fun wb => by
    refine hnode _ _ _ _ [(14, [tt 15, tt 16], 4, (mF 21 [17, 18, 19, 20]))] (by kernel_rfl) kz ?_
    ·
     refine At.st1 rfl rfl sz_143 (.t rfl) .c rfl rfl (.n U1) ⟨kz, ?_⟩
     refine W ?_
     exact wk (g2 wb)
   have g4 : ∀ (_ : True), At w 184 [rdE zK dv l0] (fs (F19 0) 264191) ([puB pu (.slice sA2 l2.length scap2) wp xp (some mb) (!decide (y2.e = 0)) (⟨x.th, x.cap, x.wd, x.ver, x.key, x.data, x.version, (y2.e), false⟩ : Pu), raB ba wv r2, raW wv n r2]) ([]) (G 10 (mF 21 [11, 12, 13, 14, 15, 16, 17, 18, 19, 20])) := fun _ => by
    refine hnode _ _ _ _ [(11, [tt 12, tt 13], 7, (mF 21 [14, 15, 16, 17, 18, 19, 20]))] (by kernel_rfl) kz ?_
    ·
     refine cP rfl rfl rfl (.k rfl (.k rfl .nil)) rfl (dw_New (a := x.th) (b := (x.cap : Int)) (c := x.wd) (d := x.ver) (key := x.key)) (fun _ h => nomatch h) (fun v N1 H1 hR => ?_); obtain ⟨wb, rfl, rfl, rfl⟩ := hR; refine ⟨rfl, kz, ?_⟩
     refine W ?_
     exact wk (g3 wb)
   have g5 : ∀ (_ : True), At w 184 [rdE zK dv l0] (fs (F19 0) 263167) ([puB pu (.slice sA2 l2.length scap2) wp xp (some mb) (!decide (y2.e = 0)) (⟨x.th, x.cap, x.wd, x.ver, x.key, x.data, x.version, (y2.e), false⟩ : Pu), raB ba wv r2, raW wv n r2]) ([]) (G 11 (mT 21 [0, 1, 2, 3, 4, 5, 6, 7, 8, 9])) := fun _ => by
    refine hnode _ _ _ _ [(10, [], 10, (mF 21 [11, 12, 13, 14, 15, 16, 17, 18, 19, 20]))] (by kernel_rfl) kz ?_
    ·
     refine WD ?_
     exact wk (g4 trivial)
   have g6 : ∀ (_ : True), At w 184 [rdE zK dv l0] (fs (F19 0) 264127) ([puB pu (.slice sA2 l2.length scap2) wp xp (some mb) (!decide (y2.e = 0)) (⟨x.th, x.cap, x.wd, x.ver, x.key, x.data, x.version, (y2.e), false⟩ : Pu), raB ba wv r2, raW wv n r2]) ([]) (G 11 (mT 21 [0, 1, 2, 3, 4, 5, 7, 8, 9, 10])) := fun _ => by
    refine hnode _ _ _ _ [(6, [], 10, (mF 21 [11, 12, 13, 14, 15, 16, 17, 18, 19, 20]))] (by kernel_rfl) kz ?_
    ·
     refine WD ?_
     exact wk (g4 trivial)
   have g7 : ∀ (_ : True), At w 184 [rdE zK dv l0] (fs (F19 0) 263103) ([puB pu (.slice sA2 l2.length scap2) wp xp (some mb) (!decide (y2.e = 0)) (⟨x.th, x.cap, x.wd, x.ver, x.key, x.data, x.version, (y2.e), false⟩ : Pu), raB ba wv r2, raW wv n r2]) ([]) (G 12 (mT 21 [0, 1, 2, 3, 4, 5, 7, 8, 9])) := fun _ => by
    refine hnode _ _ _ _ [(6, [], 11, (mT 21 [0, 1, 2, 3, 4, 5, 6, 7, 8, 9])), (10, [], 11, (mT 21 [0, 1, 2, 3, 4, 5, 7, 8, 9, 10]))] (by kernel_rfl) kz ?_
    refine ⟨?_, ?_⟩
    ·
     refine WD ?_
     exact wk (g5 trivial)
    ·
     refine WD ?_
     exact wk (g6 trivial)
   refine W ?_
   exact wk (g7 trivial)
  have g1 : ∀ (_ : True), At w 184 [rdE zK dv l0] (fs F14 4194303) ([puB pu (.slice sA2 l2.length scap2) wp xp (some mb) false (⟨x.th, x.cap, x.wd, x.ver, x.key, x.data, x.version, (y2.e), false⟩ : Pu), raB ba wv r2, raW wv n r2, meB mb (.slice sA2 l2.length scap2) F2 y2]) ([]) (G 1 (mF 23 [22])) := fun _ => by
   refine hnode _ _ _ _ [(22, [], 0, (mF 23 []))] (by kernel_rfl) kz ?_
   ·
    refine At.st1 rfl rfl sz_4 (.t rfl) (.t rfl) rfl rfl (.n U0) ⟨kz, ?_⟩
    refine W ?_
    exact wk (g0 trivial)
  have g2 : ∀ (_ : True), At w 184 [rdE zK dv l0] (fs F14 2621439) ([puB pu (.slice sA2 l2.length scap2) wp xp (some mb) false (⟨x.th, x.cap, x.wd, x.ver, x.key, x.data, x.version, x.e, false⟩ : Pu), raB ba wv r2, raW wv n r2, meB mb (.slice sA2 l2.length scap2) F2 y2]) ([]) (G 4 (mF 23 [19, 20, 21, 22])) := fun _ => by
   refine hnode _ _ _ _ [(19, [tt 20, tt 21], 1, (mF 23 [22]))] (by kernel_rfl) kz ?_
   ·
    refine At.st1 rfl rfl sz_3 (.t rfl) (.t rfl) rfl rfl (.n U0) ⟨kz, ?_⟩
    refine W ?_
    exact wk (g1 trivial)
  have g3 : ∀ (_ : True), At w 184 [rdE zK dv l0] (fs F14 2227967) ([puB pu (.slice sA2 l2.length scap2) wp xp (some mb) false (⟨x.th, x.cap, x.wd, x.ver, x.key, x.data, x.version, x.e, false⟩ : Pu), raB ba wv r2, raW wv n r2, meB mb (.slice sA2 l2.length scap2) F2 y2]) ([]) (G 7 (mF 23 [8, 17, 18, 19, 20, 21, 22])) := fun _ => by
   refine hnode _ _ _ _ [(8, [tt 17, tt 18], 4, (mF 23 [19, 20, 21, 22]))] (by kernel_rfl) kz ?_
   ·
    refine WD ?_
    exact wk (g2 trivial)
  have g4 : ∀ (_ : True), At w 184 [rdE zK dv l0] (fs F14 2129919) ([puB pu (.slice sA2 l2.length scap2) wp xp (some mb) false (⟨x.th, x.cap, x.wd, x.ver, x.key, x.data, x.version, x.e, false⟩ : Pu), raB ba wv r2, raW wv n r2, meB mb (.slice sA2 l2.length scap2) F2 y2]) ([]) (G 8 (mF 23 [15, 16, 17, 18, 19, 20, 21, 22])) := fun _ => by
   refine hnode _ _ _ _ [(15, [tt 16, tt 17, tt 18], 4, (mF 23 [19, 20, 21, 22]))] (by kernel_rfl) kz ?_
   ·
    refine ZD ?_
    exact wk (g2 trivial)
  have g5 : ∀ (_ : True), At w 184 [rdE zK dv l0] (fs F14 2129663) ([puB pu (.slice sA2 l2.length scap2) wp xp (some mb) false (⟨x.th, x.cap, x.wd, x.ver, x.key, x.data, x.version, x.e, false⟩ : Pu), raB ba wv r2, raW wv n r2, meB mb (.slice sA2 l2.length scap2) F2 y2]) ([]) (G 9 (mF 23 [8, 15, 16, 17, 18, 19, 20, 21, 22])) := fun _ => by
   refine hnode _ _ _ _ [(8, [], 8, (mF 23 [15, 16, 17, 18, 19, 20, 21, 22])), (15, [tt 16], 7, (mF 23 [8, 17, 18, 19, 20, 21, 22]))] (by kernel_rfl) kz ?_
   refine ⟨?_, ?_⟩
   ·
    refine WD ?_
    exact wk (g4 trivial)
   ·
    refine ZD ?_
    exact wk (g3 trivial)
  have g6 : ∀ (_ : True), At w 184 [rdE zK dv l0] (fs F14 2227743) ([puB pu (.slice sA2 l2.length scap2) wp xp (some mb) false (⟨x.th, x.cap, x.wd, x.ver, x.key, x.data, x.version, x.e, false⟩ : Pu), raB ba wv r2, raW wv n r2, meB mb (.slice sA2 l2.length scap2) F2 y2]) ([]) (G 10 (mF 23 [5, 6, 7, 8, 17, 18, 19, 20, 21, 22])) := fun _ => by
   refine hnode _ _ _ _ [(5, [tt 6, tt 7], 7, (mF 23 [8, 17, 18, 19, 20, 21, 22]))] (by kernel_rfl) kz ?_
   ·
    refine WD ?_
    exact wk (g3 trivial)
  have g7 : ∀ (_ : True), At w 184 [rdE zK dv l0] (fs F14 2101247) ([puB pu (.slice sA2 l2.length scap2) wp xp (some mb) false (⟨x.th, x.cap, x.wd, x.ver, x.key, x.data, x.version, x.e, false⟩ : Pu), raB ba wv r2, raW wv n r2, meB mb (.slice sA2 l2.length scap2) F2 y2]) ([]) (G 11 (mF 23 [12, 13, 14, 15, 16, 17, 18, 19, 20, 21, 22])) := fun _ => by
   refine hnode _ _ _ _ [(12, [tt 13, tt 14], 8, (mF 23 [15, 16, 17, 18, 19, 20, 21, 22]))] (by kernel_rfl) kz ?_
   ·
    refine WD ?_
    exact wk (g4 trivial)
  have g8 : ∀ (_ : True), At w 184 [rdE zK dv l0] (fs F14 2100991) ([puB pu (.slice sA2 l2.length scap2) wp xp (some mb) false (⟨x.th, x.cap, x.wd, x.ver, x.key, x.data, x.version, x.e, false⟩ : Pu), raB ba wv r2, raW wv n r2, meB mb (.slice sA2 l2.length scap2) F2 y2]) ([]) (G 12 (mT 23 [0, 1, 2, 3, 4, 5, 6, 7, 9, 10, 11])) := fun _ => by
   refine hnode _ _ _ _ [(8, [], 11, (mF 23 [12, 13, 14, 15, 16, 17, 18, 19, 20, 21, 22])), (12, [tt 13, tt 14], 9, (mF 23 [8, 15, 16, 17, 18, 19, 20, 21, 22]))] (by kernel_rfl) kz ?_
   refine ⟨?_, ?_⟩
   ·
    refine WD ?_
    exact wk (g7 trivial)
   ·
    refine WD ?_
    exact wk (g5 trivial)
  have g9 : ∀ (_ : True), At w 184 [rdE zK dv l0] (fs F14 2129439) ([puB pu (.slice sA2 l2.length scap2) wp xp (some mb) false (⟨x.th, x.cap, x.wd, x.ver, x.key, x.data, x.version, x.e, false⟩ : Pu), raB ba wv r2, raW wv n r2, meB mb (.slice sA2 l2.length scap2) F2 y2]) ([]) (G 12 (mT 23 [0, 1, 2, 3, 4, 9, 10, 11, 12, 13, 14])) := fun _ => by
   refine hnode _ _ _ _ [(5, [tt 6, tt 7], 9, (mF 23 [8, 15, 16, 17, 18, 19, 20, 21, 22])), (15, [tt 16], 10, (mF 23 [5, 6, 7, 8, 17, 18, 19, 20, 21, 22]))] (by kernel_rfl) kz ?_
   refine ⟨?_, ?_⟩
   ·
    refine WD ?_
    exact wk (g5 trivial)
   ·
    refine ZD ?_
    exact wk (g6 trivial)
  have g10 : ∀ (_ : True), At w 184 [rdE zK dv l0] (fs F14 2100767) ([puB pu (.slice sA2 l2.length scap2) wp xp (some mb) false (⟨x.th, x.cap, x.wd, x.ver, x.key, x.data, x.version, x.e, false⟩ : Pu), raB ba wv r2, raW wv n r2, meB mb (.slice sA2 l2.length scap2) F2 y2]) ([]) (G 15 (mT 23 [0, 1, 2, 3, 4, 9, 10, 11])) := fun _ => by
   refine hnode _ _ _ _ [(5, [tt 6, tt 7], 12, (mT 23 [0, 1, 2, 3, 4, 5, 6, 7, 9, 10, 11])), (12, [tt 13, tt 14], 12, (mT 23 [0, 1, 2, 3, 4, 9, 10, 11, 12, 13, 14]))] (by kernel_rfl) kz ?_
   refine ⟨?_, ?_⟩
   ·
    refine WD ?_
    exact wk (g8 trivial)
   ·
    refine WD ?_
    exact wk (g9 trivial)
  refine W ?_
  exact wk (g10 trivial)
 ·
  refine W ?_
  exact At.finalX (N' := puB pu (.slice sA2 l2.length scap2) wp xp (some mb) false (⟨x.th, x.cap, x.wd, x.ver, x.key, x.data, x.version, x.e, false⟩ : Pu) :: raB ba wv r2 :: raW wv n r2 :: meB mb (.slice sA2 l2.length scap2) F2 y2 :: NR2) hds how rfl (.t rfl) (List.Sublist.refl _) (⟨r2, y2, _, F2, l2, NR2, hr2, hD2, .inl ⟨rfl, (he0 c3).1, (he0 c3).2, rfl⟩⟩)
end Go.Proofs.YtbolanigdkgbdaaGreat
namespace Go.Proofs.YtbolanigdkgbdaaGreat
open Go Go.RowKit
set_option maxRecDepth 10000
set_option linter.unusedVariables false
set_option linter.unusedSectionVars false
set_option maxHeartbeats 1000000
theorem FnX.step0 {P : Program} {f : FuncId} {args : List Value} {S A A' : Hp} {R R' : Value → Hp → Prop} (h : FnX P f args S A R) (hp : A.Perm A') (hR : ∀ v B, R v B → ∃ M N' : Hp, M.Sublist B ∧ M.Perm N' ∧ R' v N') : FnX P f args S A' R' := (h.conv hR).perm hp
theorem Dw.bd.ok {k : Nat} {x : Dw} (h : x.bd k) (hk : k ≤ 100000000) : x.ok := by
  have h1 := h.b_x.big hk; have h2 := h.b_cur.big hk; have h3 := h.b_n.big hk; have h4 := h.th; have h5 := h.key
  exact ⟨by omega, h5, by omega, by omega, by omega⟩
theorem Dx.bd.ok {k : Nat} {x : Dx} (h : x.bd k) (hk : k ≤ 100000000) : x.ok := by
  have h1 := h.b_chunk.big hk; have h2 := h.b_g.big hk; have h3 := h.ii
  exact ⟨by omega, by omega, by omega⟩
theorem Dc.bd.ok {k : Nat} {x : Dc} (h : x.bd k) (hk : k ≤ 100000000) : x.ok := by
  have h1 := h.b_v.big hk; have h3 := h.tt
  exact ⟨by omega, by omega⟩
theorem Dl.bd.ok {k : Nat} {x : Dl} (h : x.bd k) (hk : k ≤ 100000000) : x.ok := by
  have h1 := h.b_chunk.big hk; have h2 := h.b_s.big hk; have h3 := h.b_g.big hk; have h4 := h.ii
  exact ⟨by omega, by omega, by omega, by omega⟩
theorem MeT.le {k j : Nat} {Fv : Value} {N : Hp} (h : MeT k Fv N) (hj : k ≤ j) : MeT j Fv N := by
  obtain ⟨gs, fb, NN, h1, h2, h3⟩ := h
  exact ⟨gs, fb, NN, by omega, h2, h3.le hj⟩
structure Pu.ok (k : Nat) (x : Pu) : Prop where
  th : 1 ≤ x.th ∧ x.th ≤ 16
  cap : 1 ≤ x.cap ∧ x.cap ≤ 16
  wd : 0 ≤ x.wd ∧ x.wd ≤ 1000000
  key : 0 ≤ x.key ∧ x.key ≤ 255
  data : Bd k x.data
theorem Pu.ok.le {k j : Nat} {x : Pu} (h : x.ok k) (hj : k ≤ j) : x.ok j := ⟨h.th, h.cap, h.wd, h.key, h.data.le hj⟩
def PuM (k pu : Nat) (dv : Value) (l0 : List Int) (N : Hp) : Prop := ∃ (x : Pu) (Dv : Value) (l : List Int) (wp xp mp : Option Nat) (ov : Bool) (NN : Hp), x.ok k ∧ DrO dv l0 Dv l ∧ N = puB pu Dv wp xp mp ov x :: NN ∧
  ((ov = true ∧ NN = []) ∨
   (ov = false ∧ mp = none ∧ xp = none ∧ ∃ wb u, wp = some wb ∧ u.bd k ∧ NN = [dwB wb u]) ∨
   (ov = false ∧ mp = none ∧ ∃ xb q, xp = some xb ∧ q.bd k ∧ NN = [dxB xb q]) ∨
   (ov = false ∧ ∃ mb Dm lm Fm y NR, mp = some mb ∧ DrO dv l0 Dm lm ∧ y.ok ∧ MeT k Fm NR ∧ NN = meB mb Dm Fm y :: NR))
theorem PuM.le {k j pu : Nat} {dv : Value} {l0 : List Int} {N : Hp} (h : PuM k pu dv l0 N) (hj : k ≤ j) : PuM j pu dv l0 N := by
  obtain ⟨x, Dv, l, wp, xp, mp, ov, NN, hx, hD, h0, h⟩ := h
  refine ⟨x, Dv, l, wp, xp, mp, ov, NN, hx.le hj, hD, h0, ?_⟩
  rcases h with h | ⟨h1, h2, h3, wb, u, h4, h5, h6⟩ | ⟨h1, h2, xb, q, h4, h5, h6⟩ | ⟨h1, mb, Dm, lm, Fm, y, NR, h2, h3, h4, h5, h6⟩
  · exact .inl h
  · exact .inr (.inl ⟨h1, h2, h3, wb, u, h4, h5.le hj, h6⟩)
  · exact .inr (.inr (.inl ⟨h1, h2, xb, q, h4, h5.le hj, h6⟩))
  · exact .inr (.inr (.inr ⟨h1, mb, Dm, lm, Fm, y, NR, h2, h3, h4, h5.le hj, h6⟩))
def PuR (n k pu ba : Nat) (wv dv : Value) (l0 : List Int) : Value → Hp → Prop := fun v N => ∃ (e : Bool) (r : Rr) (N2 : Hp), v = .bool e ∧ N = raB ba wv r :: raW wv n r :: N2 ∧ r.okk n (k + 1) ∧ PuM (k + 1) pu dv l0 N2
theorem pu_NewS {k : Nat} {dv Dv : Value} {l0 l : List Int} {th wd ver key data : Int} {cap : Nat} (hD : DrO dv l0 Dv l) (h1 : 1 ≤ th ∧ th ≤ 16) (h2 : 1 ≤ cap ∧ cap ≤ 16) (h3 : 0 ≤ wd ∧ wd ≤ 1000000) (h4 : 0 ≤ key ∧ key ≤ 255) (h5 : Bd k data) :
    FnX Tryz.prog 98 [.agg #[.int .i64 th, .int .i64 (cap : Int), .int .i64 wd, .int .i64 ver], .int .i64 key, .int .i64 data, Dv] [rdE zK dv l0] [] (fun v N => ∃ pu, v = .pointer (some ⟨pu, 0, none⟩) ∧ PuM k pu dv l0 N) := by
  have h00 : Bd k 0 := Bd.sm (by decide)
  refine FnX.step0 (pu_New hD) (.refl _) ?_
  rintro v B ⟨pu, wb, rfl, rfl⟩
  exact ⟨_, _, .refl _, .refl _, pu, rfl, _, Dv, l, some wb, none, none, false, _, ⟨h1, h2, h3, h4, h5⟩, hD, rfl, .inr (.inl ⟨rfl, rfl, rfl, wb, _, rfl, ⟨h00, h00, h00, h00, by show 0 ≤ th ∧ th ≤ 1000; omega, h4⟩, rfl⟩)⟩
theorem pu_Step {n k pu ba : Nat} {wv dv : Value} {l0 : List Int} {r : Rr} {N : Hp} (hP : PuM k pu dv l0 N) (hr : r.okk n k) (hn : n ≤ 1000000) (hk : k ≤ 800000) :
    FnX Tryz.prog 103 [.pointer (some ⟨pu, 0, none⟩), .pointer (some ⟨ba, 0, none⟩)] [rdE zK dv l0] (raB ba wv r :: raW wv n r :: N) (PuR n k pu ba wv dv l0) := by
  have hk2 : k ≤ 100000000 := by omega
  have hf := hr.few hk2; have hw := hr.big hk2; have hl0 := hr.len
  have hk1 : k ≤ k + 1 := Nat.le_succ k
  have h00 : Bd (k + 1) 0 := Bd.sm (by decide)
  obtain ⟨x, Dv, l, wp, xp, mp, ov, NN, hx, hD, rfl, h⟩ := hP
  have hx1 := hx.le hk1
  have hxt := hx.th; have hxc := hx.cap; have hxk := hx.key
  have hok : ∀ (p : Bool) (v e : Int), (⟨x.th, x.cap, x.wd, x.ver, x.key, x.data, v, e, p⟩ : Pu).ok (k + 1) := fun p v e => ⟨hx1.th, hx1.cap, hx1.wd, hx1.key, hx1.data⟩
  rcases h with ⟨rfl, rfl⟩ | ⟨rfl, rfl, rfl, wb, u, rfl, hu, rfl⟩ | ⟨rfl, rfl, xb, q, rfl, hq, rfl⟩ | ⟨rfl, mb, Dm, lm, Fm, y, NR, rfl, hDm, hy, hT, rfl⟩
  · refine FnX.stepS (T := [_, _]) (pu_Step0 (n := 0) (wv := wv) (l := l) (r := r) (ba := ba) (x := x) (Dv := Dv) (wp := wp) (xp := xp) (mp := mp)) (permOf [_, _, _] [0, 1, 2] [1, 2, 0] rfl []) ?_
    rintro v B ⟨rfl, rfl⟩
    exact ⟨_, _, .refl _, permOf [_, _, _] [0, 1, 2] [1, 2, 0] rfl [], true, r, _, rfl, rfl, hr.up, x, Dv, l, wp, xp, mp, true, [], hx1, hD, rfl, .inl ⟨rfl, rfl⟩⟩
  · have hst := hu.step hr
    refine FnX.step0 (pu_StepW (l := l) (ba := ba) (wv := wv) (x := x) (Dv := Dv) (wb := wb) (hu.ok hk2) hl0 hn hf hw) (permOf [_, _, _, _] [0, 1, 2, 3] [2, 3, 0, 1] rfl []) ?_
    rintro v B ⟨rfl, ⟨hz, rfl⟩ | ⟨hz, xb, rfl⟩⟩
    · exact ⟨_, _, .refl _, permOf [_, _, _, _] [0, 1, 2, 3] [2, 3, 0, 1] rfl [], false, _, _, rfl, rfl, hst.2, _, Dv, l, _, _, _, false, _, hok _ _ _, hD, rfl, .inr (.inl ⟨rfl, rfl, rfl, wb, _, rfl, hst.1, rfl⟩)⟩
    · refine ⟨_, _, .refl _, permOf [_, _, _, _] [0, 1, 2, 3] [2, 3, 1, 0] rfl [], false, _, _, rfl, rfl, hst.2, _, Dv, l, _, _, _, false, _, hok _ _ _, hD, rfl, .inr (.inr (.inl ⟨rfl, rfl, xb, _, rfl, ?_, rfl⟩))⟩
      exact ⟨hst.1.b_at, Bd.sm (by show -72057594037927936 ≤ x.key ∧ x.key ≤ 72057594037927936; omega), hx1.data, h00, Bd.sm (by show -72057594037927936 ≤ (-1 : Int) ∧ (-1 : Int) ≤ 72057594037927936; decide), by show 0 ≤ (x.cap : Int) ∧ (x.cap : Int) ≤ 16; omega, by show (-1 : Int) ≤ -1 ∧ (-1 : Int) ≤ 16; decide⟩
  · have hst := hq.step hr
    refine FnX.step0 (pu_StepX (ba := ba) (wv := wv) (x := x) (wp := wp) (xb := xb) hD (hq.ok hk2) hl0 hn hf hw) (permOf [_, _, _, _] [0, 1, 2, 3] [2, 3, 0, 1] rfl []) ?_
    rintro v B ⟨pl, ⟨hz, rfl, rfl⟩ | ⟨rfl, rfl⟩ | ⟨rfl, mb, vb, fb, lp, dr, rfl⟩⟩
    · exact ⟨_, _, .refl _, permOf [_, _, _, _] [0, 1, 2, 3] [2, 3, 0, 1] rfl [], false, _, _, rfl, rfl, hst.2, _, Dv, l, _, _, _, false, _, hok _ _ _, hD, rfl, .inr (.inr (.inl ⟨rfl, rfl, xb, _, rfl, hst.1, rfl⟩))⟩
    · exact ⟨[_, _, _], _, (by (apply List.Sublist.cons_cons; apply List.Sublist.cons; exact List.Sublist.refl _)), permOf [_, _, _] [0, 1, 2] [1, 2, 0] rfl [], true, _, _, rfl, rfl, hst.2, _, Dv, l, _, _, _, true, _, hok _ _ _, hD, rfl, .inl ⟨rfl, rfl⟩⟩
    · refine ⟨[_, _, _, _, _, _, _], _, (by (apply List.Sublist.cons_cons; apply List.Sublist.cons_cons; apply List.Sublist.cons_cons; apply List.Sublist.cons_cons; apply List.Sublist.cons_cons; apply List.Sublist.cons; exact List.Sublist.refl _)), permOf [_, _, _, _, _, _, _] [0, 1, 2, 3, 4, 5, 6] [5, 6, 4, 3, 0, 1, 2] rfl [], false, _, _, rfl, rfl, hst.2, _, Dv, l, _, _, _, false, _, hok _ _ _, hD, rfl, .inr (.inr (.inr ⟨rfl, mb, Dv, l, vb, _, _, rfl, hD, ⟨hxt, hxc, hx.wd⟩, ⟨[], fb, _, by show 0 < k + 1; omega, rfl, FrsM.snoc (NF := [_, _]) (NG := []) .nil ?_⟩, rfl⟩))⟩
      exact ⟨_, 1, 0, lp, none, none, none, none, _, ⟨hst.1.b_chunk, h00, h00, h00, h00, h00⟩, h00, .inl ⟨rfl, rfl, rfl⟩⟩
  · refine FnX.step0 (pu_StepM (ba := ba) (wv := wv) (x := x) (Dv := Dv) (wp := wp) (xp := xp) (mb := mb) hDm hy hT hr hn hk) (permOf [_, _, _] [0, 1, 2] [1, 2, 0] rfl (_ :: NR)) ?_
    rintro v B ⟨r2, y2, D2, F2, l2, NR2, hr2, hD2, ⟨rfl, rfl, hT2, rfl⟩ | ⟨wb, ev, ov, rfl, rfl⟩⟩
    · exact ⟨_, _, .refl _, permOf [_, _, _] [0, 1, 2] [1, 2, 0] rfl (_ :: NR2), false, _, _, rfl, rfl, hr2, _, D2, l2, _, _, _, false, _, hok _ _ _, hD2, rfl, .inr (.inr (.inr ⟨rfl, mb, D2, l2, F2, _, NR2, rfl, hD2, hy, hT2, rfl⟩))⟩
    · cases ov
      · exact ⟨_, _, .refl _, permOf [_, _, _, _] [0, 1, 2, 3] [2, 3, 1, 0] rfl [], false, _, _, rfl, rfl, hr2, _, D2, l2, _, _, _, false, _, hok _ _ _, hD2, rfl, .inr (.inl ⟨rfl, rfl, rfl, wb, _, rfl, ⟨h00, h00, h00, h00, by show 0 ≤ x.th ∧ x.th ≤ 1000; omega, hxk⟩, rfl⟩)⟩
      · exact ⟨[_, _, _], _, (by (apply List.Sublist.cons; exact List.Sublist.refl _)), permOf [_, _, _] [0, 1, 2] [1, 2, 0] rfl [], true, _, _, rfl, rfl, hr2, _, D2, l2, _, _, _, true, _, hok _ _ _, hD2, rfl, .inl ⟨rfl, rfl⟩⟩
end Go.Proofs.YtbolanigdkgbdaaGreat
namespace Go.Proofs.YtbolanigdkgbdaaGreat
open Go Go.RowKit
set_option maxRecDepth 10000
set_option linter.unusedVariables false
set_option linter.unusedSectionVars false
set_option maxHeartbeats 1000000
section
variable {P : Program} {f : FuncId} {args : List Value} {S' A : Hp}
theorem FnX.ofFn {R : Value → Hp → Hp → Prop} (h : Fn P f args S' [] R) (hS : ∀ w, (∀ e ∈ A, e.holds w) → ∀ e ∈ S', e.holds w) (hH : ∀ v N H, R v N H → H = []) : FnX P f args [] A (fun v N => ∃ N', R v N' [] ∧ N = N' ++ A ∧ ∃ w : World, ∀ e ∈ N', e.holds w) := by
  refine ⟨h.1, fun w hw => ?_⟩
  have hA : ∀ e ∈ A, e.holds w := fun e he => hw.has e (by simpa using he)
  have hAn : (keys A).Nodup := by have := hw.nodup; rw [List.append_nil] at this; exact this
  have h1 : @St noDf w w S' [] [] := ⟨rfl, rfl, rfl, Nat.le_refl _, (fun e he => nomatch he), hS w hA, List.nodup_nil, (fun k _ hk => nomatch hk), (fun e he => nomatch he), fun b _ _ _ => rfl⟩
  refine Calls.mono (h.2 w h1) fun e w' ⟨v, N', H', h2, h3, h4⟩ => ?_
  obtain rfl := hH _ _ _ h2
  have hold : ∀ k, k < w.heap.size → w'.heap[k]? = w.heap[k]? := fun k hk => h4.old k hk (fun h => nomatch h) noOwN
  have hN : (keys N').Nodup := by have := h4.nodup; rw [List.append_nil] at this; exact this
  refine ⟨v, _, ⟨N', h2, rfl, w', fun e he => h4.has e (List.mem_append_left _ he)⟩, h3, ?_⟩
  refine ⟨h4.os, h4.tape, h4.output, h4.size, fun e he => ?_, (fun e he => nomatch he), ?_, (fun k hk => nomatch hk), fun e he k hk => ?_, fun b h5 _ _ => hold b h5⟩
  · rw [List.append_nil] at he
    rcases List.mem_append.1 he with he | he
    · exact h4.has e (List.mem_append_left _ he)
    · exact Ent.keep (hA e he) h4.size fun k hk => hold k (Ent.lt (hA e he) hk)
  · rw [List.append_nil, keys_append]
    refine List.nodup_append.2 ⟨hN, hAn, fun a ha b hb e => ?_⟩
    subst e
    obtain ⟨y, hy, hyk⟩ := List.mem_filterMap.1 ha
    obtain ⟨z, hz, hzk⟩ := List.mem_filterMap.1 hb
    have h6 := Ent.lt (hA z hz) hzk
    rcases h4.fresh y hy a hyk with h7 | h7
    · omega
    · cases h7
  · rcases List.mem_append.1 he with he | he
    · rcases h4.fresh e he k hk with h7 | h7
      · exact .inl h7
      · cases h7
    · exact .inr (mem_keys he hk)
theorem FnX.ofV {x : Value} (h : Fn P f args S' [] (IsV x)) (hS : ∀ w, (∀ e ∈ A, e.holds w) → ∀ e ∈ S', e.holds w) : FnX P f args [] A (IsO x A) :=
  (FnX.ofFn h hS fun v N H h => h.2.2).mono fun v N ⟨N', h1, h2, _⟩ => by
    obtain ⟨rfl, rfl, _⟩ := h1
    exact ⟨rfl, h2⟩
end
theorem takesD_len (l : List Itm) : ∀ its : List Itm, (l.foldl takeD its).length ≤ its.length + l.length := by
  induction l with
  | nil => intro its; simp
  | cons y l ih => intro its; have h1 := ih (takeD its y); have h2 := takeD_len its y; simp only [List.foldl_cons, List.length_cons]; omega
def GeM (k bg : Nat) (N : Hp) : Prop := ∃ (a b c d key : Int) (bw : Nat), (0 ≤ a ∧ a ≤ 1000) ∧ (0 ≤ b ∧ b ≤ 16) ∧ (0 ≤ key ∧ key ≤ 255) ∧
  ((∃ u, u.bd k ∧ N = [dgB bg a b c d key bw none false, dwB bw u]) ∨
   (∃ bl o u y Lv, y.bd k ∧ N = [dgB bg a b c d key bw (some bl) o, dwB bw u, dlB bl Lv y, rowE iK 43 Lv y.l]))
theorem GeM.le {k j bg : Nat} {N : Hp} (h : GeM k bg N) (hj : k ≤ j) : GeM j bg N := by
  obtain ⟨a, b, c, d, key, bw, h1, h2, h3, ⟨u, h4, h5⟩ | ⟨bl, o, u, y, Lv, h4, h5⟩⟩ := h
  · exact ⟨a, b, c, d, key, bw, h1, h2, h3, .inl ⟨u, h4.le hj, h5⟩⟩
  · exact ⟨a, b, c, d, key, bw, h1, h2, h3, .inr ⟨bl, o, u, y, Lv, h4.le hj, h5⟩⟩
theorem ge_New {k bg bw : Nat} {a b c d key : Int} (h1 : 0 ≤ a ∧ a ≤ 1000) (h2 : 0 ≤ b ∧ b ≤ 16) (h3 : 0 ≤ key ∧ key ≤ 255) : GeM k bg [dgB bg a b c d key bw none false, dwB bw ⟨a, b, c, d, key, 1, 0, 0, 0, 0⟩] :=
  have h00 : Bd k 0 := Bd.sm (by decide)
  ⟨a, b, c, d, key, bw, h1, h2, h3, .inl ⟨_, ⟨h00, h00, h00, h00, h1, h3⟩, rfl⟩⟩
theorem ge_Step {n k bg ba : Nat} {wv : Value} {r : Rr} {N : Hp} (hG : GeM k bg N) (hr : r.okk n k) (hn : n ≤ 1000000) (hk : k ≤ 800000) :
    FnX Tryz.prog 104 [.pointer (some ⟨bg, 0, none⟩), .pointer (some ⟨ba, 0, none⟩)] [] (raB ba wv r :: raW wv n r :: N) (fun v N' => ∃ (e : Bool) (r2 : Rr) (N2 : Hp), v = .bool e ∧ N' = raB ba wv r2 :: raW wv n r2 :: N2 ∧ r2.okk n (k + 1) ∧ GeM (k + 1) bg N2) := by
  have hk2 : k ≤ 100000000 := by omega
  have hf := hr.few hk2; have hw := hr.big hk2; have hl0 := hr.len
  have hk1 : k ≤ k + 1 := Nat.le_succ k
  have h00 : Bd (k + 1) 0 := Bd.sm (by decide)
  obtain ⟨a, b, c, d, key, bw, h1, h2, h3, ⟨u, hu, rfl⟩ | ⟨bl, o, u, y, Lv, hy, rfl⟩⟩ := hG
  · have hst := hu.step hr
    by_cases hz : (u.step r).1.line = 0
    · refine FnX.step0 (dg_StepE (bg := bg) (ba := ba) (wv := wv) (a := a) (b := b) (c := c) (d := d) (key := key) (hu.ok hk2) hl0 hn hf hw hz) (permOf [_, _, _, _] [0, 1, 2, 3] [2, 3, 0, 1] rfl []) ?_
      rintro v B ⟨bl, rfl, rfl⟩
      refine ⟨_, _, .refl _, permOf [_, _, _, _, _, _] [0, 1, 2, 3, 4, 5] [4, 5, 0, 1, 2, 3] rfl [], false, _, _, rfl, rfl, hst.2, a, b, c, d, key, bw, h1, h2, h3, .inr ⟨bl, false, _, _, _, ?_, rfl⟩⟩
      exact ⟨hst.1.b_at, h00, h00, h2, by show (0 : Int) ≤ 0 ∧ (0 : Int) ≤ 16; decide, by show (0 : Int) ≤ 16; decide, .inr (.inl rfl), fun _ => rfl, by show (0 : Int) ≤ 0; decide⟩
    · refine FnX.step0 (dg_StepW (bg := bg) (ba := ba) (wv := wv) (a := a) (b := b) (c := c) (d := d) (key := key) (hu.ok hk2) hl0 hn hf hw hz) (permOf [_, _, _, _] [0, 1, 2, 3] [2, 3, 0, 1] rfl []) ?_
      rintro v B ⟨rfl, rfl⟩
      exact ⟨_, _, .refl _, permOf [_, _, _, _] [0, 1, 2, 3] [2, 3, 0, 1] rfl [], false, _, _, rfl, rfl, hst.2, a, b, c, d, key, bw, h1, h2, h3, .inl ⟨_, hst.1, rfl⟩⟩
  · cases o
    · have hst := hy.step hr
      have hyl : y.l.length ≤ 10000 := by have := hy.ll; have := hy.ii; omega
      refine FnX.step0 (dg_StepL (bg := bg) (ba := ba) (wv := wv) (a := a) (b := b) (c := c) (d := d) (key := key) (u := u) (Lv := Lv) (bl := bl) (hy.ok hk2) hyl hl0 hn hf hw) (permOf [_, _, _, _, _, _] [0, 1, 2, 3, 4, 5] [4, 5, 0, 1, 2, 3] rfl []) ?_
      rintro v B ⟨Lv2, rfl, rfl⟩
      exact ⟨_, _, .refl _, permOf [_, _, _, _, _, _] [0, 1, 2, 3, 4, 5] [4, 5, 0, 1, 2, 3] rfl [], _, _, _, rfl, rfl, hst.2, a, b, c, d, key, bw, h1, h2, h3, .inr ⟨bl, _, u, _, Lv2, hst.1, rfl⟩⟩
    · refine FnX.stepM (T := [_, _, _, _, _]) (dg_StepO (n := 0) (wv := wv) (lv := wv) (r := r) (bg := bg) (ba := ba) (bw := bw) (ll := some bl)) rfl (permOf [_, _, _, _, _, _] [0, 1, 2, 3, 4, 5] [1, 2, 0, 3, 4, 5] rfl []) (permOf [_, _, _, _, _, _] [0, 1, 2, 3, 4, 5] [1, 2, 0, 3, 4, 5] rfl []) ?_
      exact ⟨true, r, _, rfl, rfl, hr.up, a, b, c, d, key, bw, h1, h2, h3, .inr ⟨bl, true, u, y, Lv, hy.le hk1, rfl⟩⟩
theorem ge_Answer {k bg : Nat} {N : Hp} (hG : GeM k bg N) : FnX Tryz.prog 105 [.pointer (some ⟨bg, 0, none⟩)] [] N (fun v N' => ∃ (an : An) (pv : SV), v = .agg (anV an pv.1) ∧ N' = N) := by
  obtain ⟨a, b, c, d, key, bw, h1, h2, h3, ⟨u, hu, rfl⟩ | ⟨bl, o, u, y, Lv, hy, rfl⟩⟩ := hG
  · refine (FnX.ofV (dg_Answer0 (bg := bg) (bw := bw) (a := a) (b := b) (c := c) (d := d) (key := key) (ll := none)) fun w h e he => ?_).mono fun v N h => ⟨_, ⟨.slice none 0 0, rfl⟩, h.1, h.2⟩
    rw [List.mem_singleton.1 he]; exact h _ (.head _)
  · cases o
    · refine (FnX.ofV (dg_Answer0 (bg := bg) (bw := bw) (a := a) (b := b) (c := c) (d := d) (key := key) (ll := some bl)) fun w h e he => ?_).mono fun v N h => ⟨_, ⟨.slice none 0 0, rfl⟩, h.1, h.2⟩
      rw [List.mem_singleton.1 he]; exact h _ (.head _)
    · have hyl : y.l.length ≤ 1000000 := by have := hy.ll; have := hy.ii; omega
      refine (FnX.ofV (dg_Answer1 (bg := bg) (bw := bw) (a := a) (b := b) (c := c) (d := d) (key := key) (bl := bl) (Lv := Lv) hyl) fun w h e he => ?_).mono fun v N h => ⟨_, ⟨.slice none 0 0, rfl⟩, h.1, h.2⟩
      simp only [List.mem_cons, List.not_mem_nil, or_false] at he
      rcases he with rfl | rfl | rfl
      · exact h _ (.head _)
      · exact h _ (.tail _ (.tail _ (.head _)))
      · exact rdIs_row (h _ (.tail _ (.tail _ (.tail _ (.head _)))))
structure Ds.ok (k : Nat) (x : Ds) : Prop where
  th : 1 ≤ x.th ∧ x.th ≤ 16
  cap : 0 ≤ x.cap ∧ x.cap ≤ 16
  tt : 0 ≤ x.t ∧ x.t ≤ 1000
  lo : 0 ≤ x.lo ∧ x.lo ≤ 255
  b_at : Bd k x.at_
  b_n : Bd k x.n
theorem Ds.ok.le {k j : Nat} {x : Ds} (h : x.ok k) (hj : k ≤ j) : x.ok j := ⟨h.th, h.cap, h.tt, h.lo, h.b_at.le hj, h.b_n.le hj⟩
def ScM (k b : Nat) (N : Hp) : Prop := ∃ (x : Ds) (kp : Nat) (q : Dc) (wp lp : Option Nat) (Iv : Value) (its : List Itm) (NN : Hp), x.ok k ∧ q.bd k ∧ its.length ≤ k ∧ N = dsB b kp wp lp Iv x :: dcB kp q :: rowE iK 43 Iv its :: NN ∧
  ((x.line = 10 ∧ wp = none ∧ lp = none ∧ NN = []) ∨
   (x.line = 11 ∧ ∃ bw u, wp = some bw ∧ u.bd k ∧ NN = [dwB bw u]) ∨
   (x.line = 1 ∧ ∃ bl Lv y, lp = some bl ∧ y.bd k ∧ its.length + y.l.length ≤ k ∧ NN = [dlB bl Lv y, rowE iK 43 Lv y.l]) ∨
   ((x.line = 2 ∨ x.line = 3 ∨ x.line = 4 ∨ x.line = 0) ∧ NN = []))
theorem ScM.le {k j b : Nat} {N : Hp} (h : ScM k b N) (hj : k ≤ j) : ScM j b N := by
  obtain ⟨x, kp, q, wp, lp, Iv, its, NN, h1, h2, h3, h4, h⟩ := h
  refine ⟨x, kp, q, wp, lp, Iv, its, NN, h1.le hj, h2.le hj, by omega, h4, ?_⟩
  rcases h with h | ⟨h5, bw, u, h6, h7, h8⟩ | ⟨h5, bl, Lv, y, h6, h7, h8, h9⟩ | h
  · exact .inl h
  · exact .inr (.inl ⟨h5, bw, u, h6, h7.le hj, h8⟩)
  · exact .inr (.inr (.inl ⟨h5, bl, Lv, y, h6, h7.le hj, by omega, h9⟩))
  · exact .inr (.inr (.inr h))
theorem sc_New {k b kp : Nat} {x1 x2 x3 x4 t seq lo hi : Int} (h1 : 1 ≤ x1 ∧ x1 ≤ 16) (h2 : 0 ≤ x2 ∧ x2 ≤ 16) (h3 : 0 ≤ t ∧ t ≤ 1000) (h4 : 0 ≤ lo ∧ lo ≤ 255) : ScM k b [dsB b kp none none (.slice none 0 0) ⟨x1, x2, x3, x4, t, seq, lo, hi, 10, 0, 0⟩, dcB kp ⟨x1, x2, x3, x4, t, seq, 1, 0, 0, 0⟩, rowE iK 43 (.slice none 0 0) []] :=
  have h00 : Bd k 0 := Bd.sm (by decide)
  ⟨_, kp, _, none, none, _, [], [], ⟨h1, h2, h3, h4, h00, h00⟩, ⟨h00, h00, h3, trivial⟩, Nat.zero_le _, rfl, .inl ⟨rfl, rfl, rfl, rfl⟩⟩
theorem dlNew_bd {k : Nat} {x1 x2 x3 x4 ch lo hi most : Int} (h1 : Bd k ch) (h2 : 0 ≤ x2 ∧ x2 ≤ 16) : (⟨x1, x2, x3, x4, ch, lo, hi, most, 1, 0, 0, 0, 0, 0, []⟩ : Dl).bd k :=
  have h00 : Bd k 0 := Bd.sm (by decide)
  ⟨h1, h00, h00, h2, by show (0 : Int) ≤ 0 ∧ (0 : Int) ≤ 16; decide, by show (0 : Int) ≤ 16; decide, .inr (.inl rfl), fun _ => rfl, by show (0 : Int) ≤ 0; decide⟩
theorem Dl.step_len (x : Dl) (r : Rr) : (x.step r).1.l.length ≤ x.l.length + 1 := by
  unfold Dl.step
  repeat' split
  all_goals (try rw [Dl.next_l])
  all_goals (try rw [Dl.seven_l])
  all_goals (try dsimp only)
  all_goals first | omega | (have := putD_le x.l ⟨x.k, verD x.s, r.peek ((x.chunk + 7 + 3 * x.i) + 2)⟩; omega)
theorem sc_Step {n k b ba : Nat} {wv : Value} {r : Rr} {N : Hp} (hG : ScM k b N) (hr : r.okk n k) (hn : n ≤ 1000000) (hk : k ≤ 800000) :
    FnX Tryz.prog 106 [.pointer (some ⟨b, 0, none⟩), .pointer (some ⟨ba, 0, none⟩)] [] (raB ba wv r :: raW wv n r :: N) (fun v N' => ∃ (e : Bool) (r2 : Rr) (N2 : Hp), v = .bool e ∧ N' = raB ba wv r2 :: raW wv n r2 :: N2 ∧ r2.okk n (k + 1) ∧ ScM (k + 1) b N2) := by
  have hk2 : k ≤ 100000000 := by omega
  have hf := hr.few hk2; have hw := hr.big hk2; have hl0 := hr.len
  have hk1 : k ≤ k + 1 := Nat.le_succ k
  have h00 : Bd (k + 1) 0 := Bd.sm (by decide)
  obtain ⟨x, kp, q, wp, lp, Iv, its, NN, hx, hq, hi, rfl, h⟩ := hG
  have hx1 := hx.le hk1; have hq1 := hq.le hk1
  have hi1 : its.length ≤ k + 1 := by omega
  have hxa := hx.b_at.big hk2; have hxn := hx.b_n.big hk2; have hxt := hx.tt; have hth := hx.th
  have hok : ∀ (ln at_ m : Int), Bd (k + 1) at_ → Bd (k + 1) m → (⟨x.th, x.cap, x.wd, x.ver, x.t, x.seq, x.lo, x.hi, ln, at_, m⟩ : Ds).ok (k + 1) := fun ln at_ m h1 h2 => ⟨hx1.th, hx1.cap, hx1.tt, hx1.lo, h1, h2⟩
  rcases h with ⟨hl, rfl, rfl, rfl⟩ | ⟨hl, bw, u, rfl, hu, rfl⟩ | ⟨hl, bl, Lv, y, rfl, hy, hyl, rfl⟩ | ⟨hl, rfl⟩
  · by_cases hc : x.hi < x.lo
    · refine FnX.stepX (T := [_, _, _, _]) (ds_Step10n (ba := ba) (Iv := Iv) (kp := kp) hl hc) (permOf [_, _, _, _, _] [0, 1, 2, 3, 4] [1, 2, 0, 3, 4] rfl []) ?_
      rintro v B ⟨rfl, rfl⟩
      exact ⟨_, _, .refl _, permOf [_, _, _, _, _] [0, 1, 2, 3, 4] [1, 2, 0, 3, 4] rfl [], true, r, _, rfl, rfl, hr.up, _, kp, q, _, _, Iv, its, [], hok _ _ _ hx1.b_at hx1.b_n, hq1, hi1, rfl, .inr (.inr (.inr ⟨.inr (.inr (.inr rfl)), rfl⟩))⟩
    · have hst := hq.step hr
      by_cases he : (q.step r).1.line = 0
      · by_cases hqe : (q.step r).1.e = 0
        · refine FnX.stepX (T := [_]) (ds_Step10b (ba := ba) (Iv := Iv) (wv := wv) (kp := kp) hl hc (hq.ok hk2) hl0 hn hf hw he hqe) (permOf [_, _, _, _, _] [0, 1, 2, 3, 4] [2, 3, 0, 1, 4] rfl []) ?_
          rintro v B ⟨bw, rfl, rfl⟩
          exact ⟨_, _, .refl _, permOf [_, _, _, _, _, _] [0, 1, 2, 3, 4, 5] [3, 4, 1, 2, 5, 0] rfl [], false, _, _, rfl, rfl, hst.2, _, kp, _, _, _, Iv, its, _, hok _ _ _ hx1.b_at hx1.b_n, hst.1, hi1, rfl, .inr (.inl ⟨rfl, bw, _, rfl, ⟨h00, h00, h00, h00, by show 0 ≤ x.th ∧ x.th ≤ 1000; omega, hx.lo⟩, rfl⟩)⟩
        · refine FnX.stepX (T := [_]) (ds_Step10c (ba := ba) (Iv := Iv) (wv := wv) (kp := kp) hl hc (hq.ok hk2) hl0 hn hf hw he hqe) (permOf [_, _, _, _, _] [0, 1, 2, 3, 4] [2, 3, 0, 1, 4] rfl []) ?_
          rintro v B ⟨bw, rfl, rfl⟩
          exact ⟨[_, _, _, _, _], _, (by (apply List.Sublist.cons; exact List.Sublist.refl _)), permOf [_, _, _, _, _] [0, 1, 2, 3, 4] [2, 3, 0, 1, 4] rfl [], true, _, _, rfl, rfl, hst.2, _, kp, _, _, _, Iv, its, _, hok _ _ _ hx1.b_at hx1.b_n, hst.1, hi1, rfl, .inr (.inr (.inr ⟨.inr (.inr (.inr rfl)), rfl⟩))⟩
      · refine FnX.stepX (T := [_]) (ds_Step10a (ba := ba) (Iv := Iv) (wv := wv) (kp := kp) hl hc (hq.ok hk2) hl0 hn hf hw he) (permOf [_, _, _, _, _] [0, 1, 2, 3, 4] [2, 3, 0, 1, 4] rfl []) ?_
        rintro v B ⟨rfl, rfl⟩
        exact ⟨_, _, .refl _, permOf [_, _, _, _, _] [0, 1, 2, 3, 4] [2, 3, 0, 1, 4] rfl [], false, _, _, rfl, rfl, hst.2, _, kp, _, _, _, Iv, its, _, hx1, hst.1, hi1, rfl, .inl ⟨hl, rfl, rfl, rfl⟩⟩
  · have hst := hu.step hr
    by_cases he : (u.step r).1.line = 0
    · refine FnX.stepX (T := [_]) (ds_Step11b (ba := ba) (Iv := Iv) (wv := wv) (kp := kp) (k := q) (lp := lp) (bw := bw) hl (hu.ok hk2) hl0 hn hf hw he) (permOf [_, _, _, _, _, _] [0, 1, 2, 3, 4, 5] [3, 4, 0, 1, 5, 2] rfl []) ?_
      rintro v B ⟨bl, rfl, rfl⟩
      exact ⟨[_, _, _, _, _, _, _], _, (by (apply List.Sublist.cons_cons; apply List.Sublist.cons_cons; apply List.Sublist.cons_cons; apply List.Sublist.cons_cons; apply List.Sublist.cons; exact List.Sublist.refl _)), permOf [_, _, _, _, _, _, _] [0, 1, 2, 3, 4, 5, 6] [4, 5, 0, 3, 6, 1, 2] rfl [], false, _, _, rfl, rfl, hst.2, _, kp, q, _, _, Iv, its, _, hok _ _ _ hst.1.b_at hx1.b_n, hq1, hi1, rfl, .inr (.inr (.inl ⟨rfl, bl, _, _, rfl, dlNew_bd hst.1.b_at hx.cap, by show its.length + 0 ≤ k + 1; omega, rfl⟩))⟩
    · refine FnX.stepX (T := [_]) (ds_Step11a (ba := ba) (Iv := Iv) (wv := wv) (kp := kp) (k := q) (lp := lp) (bw := bw) hl (hu.ok hk2) hl0 hn hf hw he) (permOf [_, _, _, _, _, _] [0, 1, 2, 3, 4, 5] [3, 4, 0, 1, 5, 2] rfl []) ?_
      rintro v B ⟨rfl, rfl⟩
      exact ⟨_, _, .refl _, permOf [_, _, _, _, _, _] [0, 1, 2, 3, 4, 5] [3, 4, 0, 1, 5, 2] rfl [], false, _, _, rfl, rfl, hst.2, _, kp, q, _, _, Iv, its, _, hx1, hq1, hi1, rfl, .inr (.inl ⟨hl, bw, _, rfl, hst.1, rfl⟩)⟩
  · have hst := hy.step hr
    have hsl := Dl.step_len y r
    have hyi := hy.ii; have hyll := hy.ll
    have hsi := hst.1.ii; have hsll := hst.1.ll
    by_cases he : (y.step r).1.line = 0
    · refine FnX.stepX (T := [_]) (ds_Step1b (ba := ba) (Iv := Iv) (wv := wv) (kp := kp) (wp := wp) (bl := bl) (Lv := Lv) (its := its) hl (hy.ok hk2) (by omega) (by omega) hl0 hn hf hw he (by omega)) (permOf [_, _, _, _, _, _, _] [0, 1, 2, 3, 4, 5, 6] [4, 5, 1, 6, 0, 2, 3] rfl []) ?_
      rintro v B ⟨Iv2, Lv2, rfl, rfl⟩
      have htl := takesD_len (y.step r).1.l its
      exact ⟨[_, _, _, _, _], _, (by (apply List.Sublist.cons_cons; apply List.Sublist.cons_cons; apply List.Sublist.cons; apply List.Sublist.cons; exact List.Sublist.refl _)), permOf [_, _, _, _, _] [0, 1, 2, 3, 4] [2, 3, 1, 4, 0] rfl [], false, _, _, rfl, rfl, hst.2, _, kp, q, _, _, Iv2, _, _, hok _ _ _ hx1.b_at hx1.b_n, hq1, by omega, rfl, .inr (.inr (.inr ⟨.inl rfl, rfl⟩))⟩
    · refine FnX.stepX (T := [_]) (ds_Step1a (ba := ba) (Iv := Iv) (wv := wv) (kp := kp) (wp := wp) (bl := bl) (Lv := Lv) (its := its) hl (hy.ok hk2) (by omega) (by omega) hl0 hn hf hw he) (permOf [_, _, _, _, _, _, _] [0, 1, 2, 3, 4, 5, 6] [4, 5, 1, 6, 0, 2, 3] rfl []) ?_
      rintro v B ⟨Lv2, rfl, rfl⟩
      exact ⟨_, _, .refl _, permOf [_, _, _, _, _, _, _] [0, 1, 2, 3, 4, 5, 6] [4, 5, 1, 6, 0, 2, 3] rfl [], false, _, _, rfl, rfl, hst.2, _, kp, q, _, _, Iv, its, _, hx1, hq1, hi1, rfl, .inr (.inr (.inl ⟨hl, bl, Lv2, _, rfl, hst.1, by omega, rfl⟩))⟩
  · rcases hl with hl | hl | hl | hl
    · refine FnX.stepX (T := [_, _]) (ds_Step2 (ba := ba) (Iv := Iv) (wv := wv) (kp := kp) (wp := wp) (lp := lp) hl (by omega) (by omega) hl0 hn hf hw) (permOf [_, _, _, _, _] [0, 1, 2, 3, 4] [1, 2, 0, 3, 4] rfl []) ?_
      rintro v B ⟨rfl, rfl⟩
      by_cases hz : r.peek (x.at_ + 2) / 2 = 0
      · rw [if_pos hz]
        exact ⟨_, _, .refl _, permOf [_, _, _, _, _] [0, 1, 2, 3, 4] [1, 2, 0, 3, 4] rfl [], false, _, _, rfl, rfl, hr.load _, _, kp, q, _, _, Iv, its, [], hok _ _ _ hx1.b_at (hr.pk _).half, hq1, hi1, rfl, .inr (.inr (.inr ⟨.inr (.inr (.inl rfl)), rfl⟩))⟩
      · rw [if_neg hz]
        exact ⟨_, _, .refl _, permOf [_, _, _, _, _] [0, 1, 2, 3, 4] [1, 2, 0, 3, 4] rfl [], false, _, _, rfl, rfl, hr.load _, _, kp, q, _, _, Iv, its, [], hok _ _ _ hx1.b_at (hr.pk _).half, hq1, hi1, rfl, .inr (.inr (.inr ⟨.inr (.inl rfl), rfl⟩))⟩
    · by_cases hc : r.peek x.n ≤ x.hi
      · refine FnX.stepX (T := [_]) (ds_Step3b (ba := ba) (Iv := Iv) (wv := wv) (kp := kp) (wp := wp) (lp := lp) (k := q) hl (by omega) (by omega) hl0 hn hf hw hc) (permOf [_, _, _, _, _] [0, 1, 2, 3, 4] [2, 3, 0, 1, 4] rfl []) ?_
        rintro v B ⟨bl, rfl, rfl⟩
        exact ⟨_, _, .refl _, permOf [_, _, _, _, _, _, _] [0, 1, 2, 3, 4, 5, 6] [4, 5, 0, 3, 6, 1, 2] rfl [], false, _, _, rfl, rfl, hr.load _, _, kp, q, _, _, Iv, its, _, hok _ _ _ hx1.b_n hx1.b_n, hq1, hi1, rfl, .inr (.inr (.inl ⟨rfl, bl, _, _, rfl, dlNew_bd hx1.b_n hx.cap, by show its.length + 0 ≤ k + 1; omega, rfl⟩))⟩
      · refine FnX.stepX (T := [_, _]) (ds_Step3a (ba := ba) (Iv := Iv) (wv := wv) (kp := kp) (wp := wp) (lp := lp) hl (by omega) (by omega) hl0 hn hf hw hc) (permOf [_, _, _, _, _] [0, 1, 2, 3, 4] [1, 2, 0, 3, 4] rfl []) ?_
        rintro v B ⟨rfl, rfl⟩
        exact ⟨_, _, .refl _, permOf [_, _, _, _, _] [0, 1, 2, 3, 4] [1, 2, 0, 3, 4] rfl [], false, _, _, rfl, rfl, hr.load _, _, kp, q, _, _, Iv, its, [], hok _ _ _ hx1.b_at hx1.b_n, hq1, hi1, rfl, .inr (.inr (.inr ⟨.inr (.inr (.inl rfl)), rfl⟩))⟩
    · refine FnX.stepX (T := [_, _]) (ds_Step4 (ba := ba) (Iv := Iv) (wv := wv) (kp := kp) (wp := wp) (lp := lp) hl (by omega) hl0 hn hf hw) (permOf [_, _, _, _, _] [0, 1, 2, 3, 4] [1, 2, 0, 3, 4] rfl []) ?_
      rintro v B ⟨rfl, rfl⟩
      exact ⟨_, _, .refl _, permOf [_, _, _, _, _] [0, 1, 2, 3, 4] [1, 2, 0, 3, 4] rfl [], true, _, _, rfl, rfl, hr.store Bd.claim, _, kp, q, _, _, Iv, its, [], hok _ _ _ hx1.b_at hx1.b_n, hq1, hi1, rfl, .inr (.inr (.inr ⟨.inr (.inr (.inr rfl)), rfl⟩))⟩
    · refine FnX.stepX (T := [_, _, _, _]) (ds_Step0 (ba := ba) (Iv := Iv) (kp := kp) (wp := wp) (lp := lp) hl) (permOf [_, _, _, _, _] [0, 1, 2, 3, 4] [1, 2, 0, 3, 4] rfl []) ?_
      rintro v B ⟨rfl, rfl⟩
      exact ⟨_, _, .refl _, permOf [_, _, _, _, _] [0, 1, 2, 3, 4] [1, 2, 0, 3, 4] rfl [], true, r, _, rfl, rfl, hr.up, x, kp, q, _, _, Iv, its, [], hx1, hq1, hi1, rfl, .inr (.inr (.inr ⟨.inr (.inr (.inr hl)), rfl⟩))⟩
theorem sc_Answer {k b : Nat} {N : Hp} (hG : ScM k b N) (hk : k ≤ 900000) : FnX Tryz.prog 107 [.pointer (some ⟨b, 0, none⟩)] [] N (fun v N' => ∃ (an : An) (pv : SV), v = .agg (anV an pv.1) ∧ N' = N) := by
  obtain ⟨x, kp, q, wp, lp, Iv, its, NN, hx, hq, hi, rfl, h⟩ := hG
  by_cases hl : x.line = 0
  · by_cases he : q.e = 0
    · refine (FnX.ofFn (ds_Answer (b := b) (its := its) (k := q) (x := x) (kp := kp) (wp := wp) (lp := lp) (Iv := Iv) hl he (by omega)) (fun w h e he => ?_) fun v N H h => h.elim fun _ h => h.2.2).conv fun v N h => ?_
      · simp only [List.mem_cons, List.not_mem_nil, or_false] at he
        rcases he with rfl | rfl | rfl
        · exact h _ (.head _)
        · exact h _ (.tail _ (.head _))
        · exact rdIs_row (h _ (.tail _ (.tail _ (.head _))))
      · obtain ⟨N', ⟨pv, h1, h2, _⟩, h3, w, h4⟩ := h
        subst h2 h3
        have h5 : pv.oneCell' = true := by
          obtain ⟨_, ⟨h5, _⟩ | ⟨g, c, _, h5, _⟩⟩ := h4 _ (.head _)
          · rw [h5]; rfl
          · rw [h5]; rfl
        exact ⟨_, _, List.sublist_append_right _ _, .refl _, _, ⟨pv, h5⟩, h1, rfl⟩
    · refine (FnX.ofV (ds_AnswerE (b := b) (its := its) (kp := kp) (wp := wp) (lp := lp) (Iv := Iv) hl he) fun w h e he => ?_).mono fun v N h => ⟨_, ⟨.slice none 0 0, rfl⟩, h.1, h.2⟩
      simp only [List.mem_cons, List.not_mem_nil, or_false] at he
      rcases he with rfl | rfl
      · exact h _ (.head _)
      · exact h _ (.tail _ (.head _))
  · refine (FnX.ofV (ds_Answer0 (b := b) (k := q) (its := its) (kp := kp) (wp := wp) (lp := lp) (Iv := Iv) hl) fun w h e he => ?_).mono fun v N h => ⟨_, ⟨.slice none 0 0, rfl⟩, h.1, h.2⟩
    rw [List.mem_singleton.1 he]; exact h _ (.head _)
end Go.Proofs.YtbolanigdkgbdaaGreat
namespace Go.Proofs.YtbolanigdkgbdaaGreat
open Go Go.RowKit
set_option linter.unusedVariables false
set_option linter.unusedSectionVars false
section
variable {α : Type} [Inhabited α]
theorem setL_app (pre post : List Value) : ∀ (c mid : List Value) (q : Nat), q + c.length ≤ mid.length → setL (pre ++ mid ++ post) (pre.length + q) c = pre ++ setL mid q c ++ post
  | [], mid, q, _ => rfl
  | v :: c, mid, q, h => by
    have hl : q < mid.length := by simp at h; omega
    have e : (pre ++ mid ++ post).set (pre.length + q) v = pre ++ mid.set q v ++ post := by
      rw [List.append_assoc, List.set_append_right _ _ (by omega), Nat.add_sub_cancel_left, List.set_append_left _ _ hl, List.append_assoc]
    have := setL_app pre post c (mid.set q v) (q + 1) (by simp at h ⊢; omega)
    simp only [setL, e]
    exact this
theorem gE_mid {a b : List α} {x : α} : gE (a ++ x :: b) (a.length : Int) = x := by simp [gE]
theorem Ek.all_mid (k : Ek α) {a b : List α} {x : α} : k.all (a ++ x :: b) = k.all a ++ k.enc x ++ k.all b := by rw [k.all_append, k.all_cons, List.append_assoc]
theorem Ek.getM {k : Ek α} {a b : List α} {x : α} {q : Nat} {u : Value} (hu : (k.enc x)[q]? = some u) : (k.all (a ++ x :: b))[(a.length : Int).toNat * k.sz + q]? = some u :=
  k.all_get _ q (by rw [gE_mid]; exact hu) (by simp; omega)
theorem midB {a b : List α} {x : α} : 0 ≤ (a.length : Int) ∧ (a.length : Int) < ((a ++ x :: b).length : Int) := by simp; omega
theorem splitAt (l : List α) (j : Int) (h : 0 ≤ j ∧ j < l.length) : ∃ a x b, l = a ++ x :: b ∧ (a.length : Int) = j := by
  refine ⟨l.take j.toNat, l[j.toNat]'(by omega), l.drop (j.toNat + 1), ?_, ?_⟩
  · rw [← List.drop_eq_getElem_cons, List.take_append_drop]
  · rw [List.length_take, Nat.min_eq_left (by omega)]; omega
def IsSl (v : Value) : Prop := ∃ g m cap, v = .slice (some ⟨g, 0, none⟩) m cap
theorem R.nilCheckE [Df] {P : Program} {n : Nat} {l : Fr} {C : World → Prop} {g : Bool} {d : Option Tmp} {ty : TypeId} {pos : String} {af : Array Edge} {gd : Option (Nat × Bool)} {x : Operand} {k : Nat} {v : Value} (hx : Ev n l g x (elemPtr v k)) (hv : IsSl v) :
    RunsC P n l C g ⟨d, .nilCheck x, ty, pos, af, gd⟩ (elemPtr v k) := by
  obtain ⟨b, m, cap, rfl⟩ := hv
  have hx' : Ev n l g x (.pointer (some ⟨b, 0 + k, none⟩)) := by simpa [elemPtr, add_addr] using hx
  have := R.nilCheckP (P := P) (C := C) (d := d) (ty := ty) (pos := pos) (af := af) (gd := gd) hx'
  simpa [elemPtr, add_addr] using this
theorem R.fieldE [Df] {P : Program} {n : Nat} {l : Fr} {C : World → Prop} {g : Bool} {d : Option Tmp} {ty : TypeId} {pos : String} {af : Array Edge} {gd : Option (Nat × Bool)} {x : Operand} {s f off k : Nat} {v : Value} (hf : fieldOff? P s f = some off) (hx : Ev n l g x (elemPtr v k)) (hv : IsSl v) :
    RunsC P n l C g ⟨d, .fieldAddr s x f, ty, pos, af, gd⟩ (elemPtr v (k + off)) := by
  obtain ⟨b, m, cap, rfl⟩ := hv
  have hx' : Ev n l g x (.pointer (some ⟨b, 0 + k, none⟩)) := by simpa [elemPtr, add_addr] using hx
  have := R.fieldAddr (P := P) (C := C) (d := d) (ty := ty) (pos := pos) (af := af) (gd := gd) hf hx'
  simpa [elemPtr, add_addr, Nat.add_assoc] using this
variable {P : Program} {w0 : World} {n : Nat} [Df] {S N H : Hp} {l : Fr} {ops : Array Oper} {C : World → Prop} {K : Act → World → Prop} {r : List (Bool × Nat)} {i : Nat}
theorem At.isl {X : Act → World → Prop} {v : Value} {E : TypeId} {sz m : Nat} {xs : List Value} (hm : Ent.row v E sz m xs ∈ S ++ (N ++ H)) (h0 : 0 < m) (h : IsSl v → At w0 n S l N H X) : At w0 n S l N H X :=
  At.rowForm2 hm h0 fun g cap hv _ => h ⟨g, m, cap, hv⟩
theorem At.stFld {p z : Operand} {T ty : TypeId} {pos : String} {af : Array Edge} {gd : Option (Nat × Bool)} {k : Ek α} {E : TypeId} {v : Value} (q : Nat) {a b : List α} {x : α} (y : α) {u : Value} (c : List Value) {N' H' : Hp} (ho : ops[i]? = some ⟨none, .store T p z, ty, pos, af, gd⟩)
    (hg : wantG ops l ⟨none, .store T p z, ty, pos, af, gd⟩ = some true) (hs : (P.info? T).map (·.size) = some c.length) (hp0 : Ev n l true p (elemPtr v ((a.length : Int).toNat * k.sz + q))) (hx : Ev n l true z u) (hc : u.cells = c.toArray) (hc1 : c.all (·.oneCell') = true)
    (hq : q + c.length ≤ k.sz) (hu : Up N H (rowE k E v (a ++ x :: b)) (rowE k E v (a ++ y :: b)) N' H')
    (hy : setL (k.enc x) q c = k.enc y)
    (h : Cl w0 S N' H' C ∧ At w0 n S l N' H' (wpSch P ops C K r)) : At w0 n S l N H (wpSch P ops C K ((false, i) :: r)) :=
  At.eW (d := none) ho hg fun A w ha hw => by
    have hm : rowE k E v (a ++ x :: b) ∈ N ++ H := by cases hu with | n hl => exact List.mem_append_left _ hl.mem | h hl => exact List.mem_append_right _ hl.mem
    have hrow := hw.has _ hm
    have hL : (a ++ x :: b).length = (a ++ y :: b).length := by simp
    have hla : a.length < (a ++ x :: b).length := by simp
    obtain ⟨hlen, ⟨h1, h2⟩ | ⟨g, cap', cur, rfl, hb, hgb, hnc, hcm, hcs, htake⟩⟩ := hrow
    · rw [h2] at hla; omega
    · have hp : Ev n l true p (.pointer (some ⟨g, 0 + (a.length * k.sz + q), none⟩)) := by simpa [elemPtr, add_addr] using hp0
      have hle : a.length * k.sz + k.sz ≤ (a ++ x :: b).length * k.sz := by rw [← Nat.succ_mul]; exact Nat.mul_le_mul_right _ hla
      have hcap : (a ++ x :: b).length * k.sz ≤ cap' * k.sz := Nat.mul_le_mul_right _ hnc
      obtain ⟨w', h2, h3, h4, h5, h6, h7, h8⟩ := run_storeCells P (E := E) c 0 (0 + (a.length * k.sz + q)) w cur hgb (by rw [hcs]; omega) (fun v hv => List.all_eq_true.1 hc1 v hv)
      have hrun : (execOp A.eval ⟨none, .store T p z, ty, pos, af, gd⟩).run P w = .ok .skip w' := by
        have e1 : c.toArray.size = c.length := by simp
        simp [execOp, hp rfl A ha, hx rfl A ha, Instr.storeAt, Instr.sureAddr, storeVar, run_sizeOf hs, hc, e1]
        simp only [Nat.zero_add] at h2
        rw [h2]; rfl
      unfold Oper.wp
      rw [hrun, Oper.upon_skip]
      have hown : (rowE k E (.slice (some ⟨g, 0, none⟩) (a ++ x :: b).length cap') (a ++ y :: b)).holds w' := by
        have e3 : (k.all a).length = a.length * k.sz := k.all_length a
        rw [hL] at htake hcap hle hlen hnc ⊢
        refine ⟨by rw [k.all_length], .inr ⟨g, cap', _, rfl, hb, h3, hnc, hcm, by rw [setFrom_size]; exact hcs, ?_⟩⟩
        rw [setFrom_toList, setL_take _ _ _ _ (by omega), htake, k.all_mid, k.all_mid, ← hy, Nat.zero_add, ← e3]
        exact setL_app _ _ _ _ _ (by rw [k.len]; exact hq)
      have := hw.upd hu rfl hown h4 h5 h6 (by omega) fun q' _ hq' => h8 q' fun e => hq' (by rw [e]; rfl)
      exact ⟨h.1 _ this, h.2 _ _ ha this⟩
end
end Go.Proofs.YtbolanigdkgbdaaGreat
namespace Go.Proofs.YtbolanigdkgbdaaGreat
open Go Go.RowKit
set_option linter.unusedVariables false
set_option linter.unusedSectionVars false
section
variable {P : Program} {w0 : World} {n : Nat} [Df] {S N H : Hp} {l : Fr} {ops : Array Oper} {C : World → Prop} {K : Act → World → Prop} {r : List (Bool × Nat)} {i : Nat}
theorem At.sFb {d : Nat} {o : Oper} (ho : ops[i]? = some o) (hd : o.dst = some d) (hdn : Nat.blt d n = true) (hg : wantG ops l o = some false) (hC : Cl w0 S N H C)
    (h : At w0 n S ((d, false, .bool true) :: l) N H (wpSch P ops C K r)) : At w0 n S l N H (wpSch P ops C K ((true, i) :: r)) := At.s ho hd hdn hg hC (fun h => nomatch h) h
end
theorem Cl.keptB [Df] {w0 : World} {S N H B L : Hp} (h : ∀ e ∈ L, e ∈ N) : Cl w0 S (B ++ N) H (Kept L) := Cl.kept fun e he => by
  simp only [List.mem_append]
  exact .inr (.inl (.inr (h e he)))
structure Op4 where
  kind : Int
  key : Int
  val : Int
  to_ : Int
instance : Inhabited Op4 := ⟨⟨0, 0, 0, 0⟩⟩
abbrev opK : Ek Op4 := ⟨fun x => [.int .i64 x.kind, .int .i64 x.key, .int .i64 x.val, .int .i64 x.to_], 4, fun _ => rfl, fun _ v hv => by
  simp at hv; rcases hv with rfl | rfl | rfl | rfl <;> rfl⟩
structure Th where
  next : Int
  busy : Bool
  scans : Int
  p : Option Nat
  g : Option Nat
  s : Option Nat
instance : Inhabited Th := ⟨⟨0, false, 0, none, none, none⟩⟩
abbrev thK : Ek Th := ⟨fun x => [.int .i64 x.next, .bool x.busy, .int .i64 x.scans, ptO x.p, ptO x.g, ptO x.s], 6, fun _ => rfl, fun _ v hv => by
  simp at hv; rcases hv with rfl | rfl | rfl | rfl | rfl | rfl <;> rfl⟩
structure Evt where
  thread : Int
  index : Int
  op : Op4
  beg : Int
  fin : Int
  steps : Int
  alloc : Int
  at_ : Int
  ver : Int
  an : An
  pv : SV
instance : Inhabited Evt := ⟨⟨0, 0, default, 0, 0, 0, 0, 0, 0, ⟨0, false, 0, 0, 0⟩, ⟨.slice none 0 0, rfl⟩⟩⟩
abbrev evK : Ek Evt := ⟨fun x => [.int .i64 x.thread, .int .i64 x.index, .int .i64 x.op.kind, .int .i64 x.op.key, .int .i64 x.op.val, .int .i64 x.op.to_, .int .i64 x.beg, .int .i64 x.fin, .int .i64 x.steps, .int .i64 x.alloc, .int .i64 x.at_, .int .i64 x.ver, .int .i64 x.an.code, .bool x.an.found, .int .i64 x.an.val, .int .i64 x.an.writer, .int .i64 x.an.version, x.pv.1], 18, fun _ => rfl, fun x v hv => by
  simp at hv
  rcases hv with rfl | rfl | rfl | rfl | rfl | rfl | rfl | rfl | rfl | rfl | rfl | rfl | rfl | rfl | rfl | rfl | rfl | rfl
  all_goals first | rfl | exact x.pv.2⟩
structure Ma where
  th : Int
  cap : Nat
  wd : Int
  ver : Int
  now : Int
  idle : Int
abbrev maC (Ov Pv dv : Value) (ba : Nat) (Tv Kv Ev : Value) (x : Ma) : Array Value := #[.int .i64 x.th, .int .i64 (x.cap : Int), .int .i64 x.wd, .int .i64 x.ver, Ov, Pv, dv, .pointer (some ⟨ba, 0, none⟩), Tv, .int .i64 x.now, .int .i64 x.idle, Kv, Ev]
abbrev maB (b : Nat) (Ov Pv dv : Value) (ba : Nat) (Tv Kv Ev : Value) (x : Ma) : Ent := .blk b (.cells (maC Ov Pv dv ba Tv Kv Ev x) 85)
abbrev opsRows := List (Value × List Op4)
def opsV (gs : opsRows) (t : Int) : Value := if 0 ≤ t ∧ t < gs.length then (gE gs t).1 else .slice none 0 0
def opsL (gs : opsRows) (t : Int) : List Op4 := if 0 ≤ t ∧ t < gs.length then (gE gs t).2 else []
theorem opsV_yes {gs : opsRows} {t : Int} (h : 0 ≤ t ∧ t < gs.length) : (gE gs t).1 = opsV gs t := by unfold opsV; rw [if_pos h]
theorem opsV_no {gs : opsRows} {t : Int} (h : ¬ (0 ≤ t ∧ t < gs.length)) : Value.slice none 0 0 = opsV gs t := by unfold opsV; rw [if_neg h]
theorem opsRd {C : World → Prop} {gs : opsRows} (t : Int) (h : ∀ x ∈ gs, RdIn C x.1 opK.sz x.2.length (opK.all x.2)) : RdIn C (opsV gs t) opK.sz (opsL gs t).length (opK.all (opsL gs t)) := by
  unfold opsV opsL
  split
  · rename_i h1; exact h _ (gE_mem' h1)
  · exact RdIn.nil
theorem midP {α : Type} {a b : List α} {x : α} : 0 < (a ++ x :: b).length := by simp only [List.length_append, List.length_cons]; omega
theorem Aprt.sub1 [Df] {w0 : World} {S S' N H A T : Hp} (hS : ∀ e ∈ S', e ∈ S) (h : Pick N A T) : Aprt w0 S N H S' A := fun w hw k hk hA => by
  obtain ⟨e, he, hek⟩ := List.mem_filterMap.1 hk
  exact Aprt.ofPick (S := S) h w hw k (mem_keys (hS e he) hek) hA
theorem mem1 {a : Ent} {S : Hp} (h : a ∈ S) : ∀ e ∈ [a], e ∈ S := fun e he => by rw [List.mem_singleton.1 he]; exact h
def OpM (k : Nat) (dv : Value) (l0 : List Int) (y : Th) (N : Hp) : Prop :=
  (∃ pu, y.p = some pu ∧ PuM k pu dv l0 N) ∨ (y.p = none ∧ ∃ bg, y.g = some bg ∧ GeM k bg N) ∨ (y.p = none ∧ y.g = none ∧ ∃ b, y.s = some b ∧ ScM k b N)
theorem OpM.le {k j : Nat} {dv : Value} {l0 : List Int} {y : Th} {N : Hp} (h : OpM k dv l0 y N) (hj : k ≤ j) : OpM j dv l0 y N := by
  rcases h with ⟨pu, h1, h2⟩ | ⟨h1, bg, h2, h3⟩ | ⟨h1, h2, b, h3, h4⟩
  · exact .inl ⟨pu, h1, h2.le hj⟩
  · exact .inr (.inl ⟨h1, bg, h2, h3.le hj⟩)
  · exact .inr (.inr ⟨h1, h2, b, h3, h4.le hj⟩)
inductive EvF (es : List Evt) (t i : Int) : Int → Prop
  | no : (∀ e ∈ es, ¬ (e.thread = t ∧ e.index = i)) → EvF es t i (-1)
  | yes {a b : List Evt} {e : Evt} : es = a ++ e :: b → e.thread = t → e.index = i → EvF es t i (a.length : Int)
theorem EvF.mk {es : List Evt} {t i : Int} {k : Nat} (hk : k < es.length) (h : (gE es (k : Int)).thread = t ∧ (gE es (k : Int)).index = i) : EvF es t i (k : Int) := by
  obtain ⟨a, x, b, h1, h2⟩ := splitAt es (k : Int) (by omega)
  subst h1
  have e : (k : Int) = (a.length : Int) := h2.symm
  rw [e] at h ⊢
  rw [gE_mid] at h
  exact .yes rfl h.1 h.2
theorem EvF.none {es : List Evt} {t i : Int} {k : Nat} (hk : es.length ≤ k) (h : ∀ j : Nat, j < k → ¬ ((gE es (j : Int)).thread = t ∧ (gE es (j : Int)).index = i)) : EvF es t i (-1) := .no fun e he => by
  obtain ⟨j, hj, rfl⟩ := List.getElem_of_mem he
  have := h j (by omega)
  simpa [gE, hj] using this
end Go.Proofs.YtbolanigdkgbdaaGreat
