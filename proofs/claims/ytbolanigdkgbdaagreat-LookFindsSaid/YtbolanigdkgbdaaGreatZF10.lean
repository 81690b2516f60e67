/- Part of the proof: lemmas for what the last file states; no condition. -/
import Derived.Test.YtbolanigdkgbdaaGreatZF9
set_option linter.unusedSectionVars false
namespace Go.Proofs.YtbolanigdkgbdaaGreat
open Go Go.RowKit
theorem bdnZF10 {p : Prop} (h : p := by simp only [List.length_append, List.length_cons, List.length_nil, List.length_take, List.length_drop]; omega) : p := h
set_option maxRecDepth 10000
set_option linter.unusedVariables false
set_option linter.unnecessarySimpa false
set_option linter.unusedSectionVars false
set_option maxHeartbeats 1000000
theorem fo_194_3 : fieldOff? Tryz.prog 194 3 = some 3 := by kernel_rfl
theorem sz_189 : (Tryz.prog.info? 189).map (·.size) = some 1 := by kernel_rfl
theorem last_pt {gs : List Nat} {fb : Nat} : gE ((gs ++ [fb]).map ptS) ((((gs ++ [fb]).map ptS).length : Int) - 1) = ptS fb := by
  have e : (((gs ++ [fb]).map ptS).length : Int) - 1 = (gs.length : Nat) := by simp
  rw [e]; simp [gE]
theorem take_pt {gs : List Nat} {fb : Nat} : ((gs ++ [fb]).map ptS).take ((gs ++ [fb]).length - 1) = gs.map ptS := by simp
theorem me_Step1 {mb fb lp ba n : Nat} {dv wv Dv Fv : Value} {l0 l : List Int} {x : Me} {gs : List Nat} {sp np bp pp : Option Nat} {ch rp : Int} {d : Dd} {r : Rr} (hg : gs.length ≤ 900000) (hD : DrO dv l0 Dv l) (hd : d.ok) (hn : r.w.length = n) (hN : n ≤ 1000000) (hf : r.few) (hw : r.mid 1152921504606846976) : FnX Tryz.prog 117 [.pointer (some ⟨mb, 0, none⟩), .pointer (some ⟨ba, 0, none⟩)] ([rdE zK dv l0]) ([meB mb Dv Fv x, rowE sK 187 Fv ((gs ++ [fb]).map ptS), frB fb ch 1 lp sp np bp pp rp, ddB lp d, raB ba wv r, raW wv n r]) (fun v N => ∃ Dv2 l2, DrO dv l0 Dv2 l2 ∧ v = .bool false ∧ ((¬ (d.step r).1.line = 0 ∧ N = [meB mb Dv2 Fv x, rowE sK 187 Fv ((gs ++ [fb]).map ptS), frB fb ch 1 lp sp np bp pp rp, ddB lp (d.step r).1, raB ba wv (d.step r).2, raW wv n (d.step r).2]) ∨ ((d.step r).1.line = 0 ∧ ∃ qb, N = [dqB qb (⟨x.th, (x.cap : Int), x.wd, x.ver, (d.step r).1.ch1, (d.step r).1.ch2, 1, 0, 0⟩ : Dq), meB mb Dv2 Fv x, rowE sK 187 Fv ((gs ++ [fb]).map ptS), frB fb ch 2 lp (some qb) np bp pp rp, ddB lp (d.step r).1, raB ba wv (d.step r).2, raW wv n (d.step r).2]))) := by
 refine FnX.enter Tryz.func117 (by kernel_rfl) rfl (n := 200) rfl rfl (fun w df hds how => ?_)
 have hml : ((gs ++ [fb]).map ptS).length = gs.length + 1 := (by simp)
 refine At.sliceForm (drS hD) (fun sA scap hsv _ _ => ?_)
 subst hsv
 refine Y ?_
 refine At.drawK [tt 0, tt 1, tt 2, tt 3, tt 4, tt 5, tt 6, tt 7, tt 8, tt 9, tt 10, tt 11, tt 12] (by kernel_rfl) (by kernel_rfl) ?_
 refine U ?_
 refine sJ rfl (R.lenRd Tryz.underlying161 (.t rfl) (wK M2)) ?_
 refine sJ rfl (R.subI (.t rfl) .c gO) ?_
 refine sJ rfl (R.indexRd Tryz.underlying161 sz_187 (.t rfl) (wK M2) (.t rfl) gO) ?_
 refine sJ rfl (R.as (R.loadRd Tryz.underlying187 rfl (.t rfl) (wK M2) (fun hg => by exact Ek.get0 rfl (by omega))) (fun _ => congrArg Subtype.val (last_pt (gs := gs) (fb := fb)))) ?_
 refine Y ?_
 refine cM rfl rfl rfl (.k rfl (.k rfl .nil)) rfl (.n (.skip (.skip (.skip (.take (.take (.take .nil))))))) .nil (dd_Step (x := d) (r := r) hd hn hN hf hw) rfl .nil ⟨.all, ?_⟩
 refine U ?_
 refine eA rfl (R.not (.s rfl)) ?_
 refine eA rfl (R.pickAnd (.t rfl) rfl (by (intro hg h; rw [h]; rfl))) ?_
 refine U ?_
 refine eA rfl (R.lenRd Tryz.underlying25 (.s rfl) (drS hD)) ?_
 refine eA rfl (R.gtr (.s rfl) .c) ?_
 refine eA rfl (R.pickAnd (.t rfl) rfl (by (intro hg h; rw [h]; rfl))) ?_
 refine U ?_
 refine At.cond (.t rfl) (fun c3 => ?_) (fun c3 => ?_)
 ·
  have hl1 : 1 ≤ l.length := (by simp [-List.length_eq_zero_iff] at c3; omega); have hD2 := hD.cut 1 hl1
  refine W ?_
  refine eA rfl (R.sliceRd Tryz.underlying25 sz_3 (.t rfl) (drS hD) .c rfl (fun hg => (by (exact bdnZF10)))) ?_
  refine W ?_
  refine At.st1 rfl rfl sz_25 (.t rfl) (.t rfl) rfl rfl (.n U0) ⟨.all, ?_⟩
  refine W ?_
  refine At.condD (.t rfl) (fun c4 => ?_) (fun c4 => ?_)
  ·
   have hz : (d.step r).1.line = 0 := (by simpa using c4)
   refine W ?_
   refine At.callVR rfl rfl rfl (.k rfl .nil) (.blk (.st M4) .nil) (fun hg => dd_Chunks (b := lp) (x := (d.step r).1)) .all ?_
   refine W ?_
   refine cP rfl rfl rfl (.k rfl (.k rfl (.k rfl .nil))) rfl (dq_New (a := x.th) (b := (x.cap : Int)) (c := x.wd) (d := x.ver) (chunk := (d.step r).1.ch1) (mate := (d.step r).1.ch2)) (fun _ h => nomatch h) (fun v N1 H1 hR => ?_); obtain ⟨qb, rfl, rfl, rfl⟩ := hR; refine ⟨rfl, .all, ?_⟩
   refine W ?_
   refine At.st1 rfl rfl sz_3 (.t rfl) .c rfl rfl (.n U3) ⟨.all, ?_⟩
   refine W ?_
   refine At.st1 rfl rfl sz_189 (.t rfl) (.t rfl) rfl rfl (.n U3) ⟨.all, ?_⟩
   refine Y ?_
   exact At.finalX (N' := [dqB qb (⟨x.th, (x.cap : Int), x.wd, x.ver, (d.step r).1.ch1, (d.step r).1.ch2, 1, 0, 0⟩ : Dq), meB mb _ Fv x, rowE sK 187 Fv ((gs ++ [fb]).map ptS), frB fb ch 2 lp (some qb) np bp pp rp, ddB lp (d.step r).1, raB ba wv (d.step r).2, raW wv n (d.step r).2]) hds how rfl (.t rfl) (List.Sublist.refl _) (⟨_, _, hD2, rfl, .inr ⟨hz, qb, rfl⟩⟩)
  ·
   have hz : ¬ (d.step r).1.line = 0 := (by simpa using c4)
   refine Y ?_
   exact At.finalX (N' := [meB mb _ Fv x, rowE sK 187 Fv ((gs ++ [fb]).map ptS), frB fb ch 1 lp sp np bp pp rp, ddB lp (d.step r).1, raB ba wv (d.step r).2, raW wv n (d.step r).2]) hds how rfl (.t rfl) (List.Sublist.refl _) (⟨_, _, hD2, rfl, .inl ⟨hz, rfl⟩⟩)
 ·
  have hD2 := hD
  refine W ?_
  refine At.condD (.t rfl) (fun c5 => ?_) (fun c5 => ?_)
  ·
   have hz : (d.step r).1.line = 0 := (by simpa using c5)
   refine W ?_
   refine At.callVR rfl rfl rfl (.k rfl .nil) (.blk (.st M4) .nil) (fun hg => dd_Chunks (b := lp) (x := (d.step r).1)) .all ?_
   refine W ?_
   refine cP rfl rfl rfl (.k rfl (.k rfl (.k rfl .nil))) rfl (dq_New (a := x.th) (b := (x.cap : Int)) (c := x.wd) (d := x.ver) (chunk := (d.step r).1.ch1) (mate := (d.step r).1.ch2)) (fun _ h => nomatch h) (fun v N1 H1 hR => ?_); obtain ⟨qb, rfl, rfl, rfl⟩ := hR; refine ⟨rfl, .all, ?_⟩
   refine W ?_
   refine At.st1 rfl rfl sz_3 (.t rfl) .c rfl rfl (.n U3) ⟨.all, ?_⟩
   refine W ?_
   refine At.st1 rfl rfl sz_189 (.t rfl) (.t rfl) rfl rfl (.n U3) ⟨.all, ?_⟩
   refine Y ?_
   exact At.finalX (N' := [dqB qb (⟨x.th, (x.cap : Int), x.wd, x.ver, (d.step r).1.ch1, (d.step r).1.ch2, 1, 0, 0⟩ : Dq), meB mb _ Fv x, rowE sK 187 Fv ((gs ++ [fb]).map ptS), frB fb ch 2 lp (some qb) np bp pp rp, ddB lp (d.step r).1, raB ba wv (d.step r).2, raW wv n (d.step r).2]) hds how rfl (.t rfl) (List.Sublist.refl _) (⟨_, _, hD2, rfl, .inr ⟨hz, qb, rfl⟩⟩)
  ·
   have hz : ¬ (d.step r).1.line = 0 := (by simpa using c5)
   refine Y ?_
   exact At.finalX (N' := [meB mb _ Fv x, rowE sK 187 Fv ((gs ++ [fb]).map ptS), frB fb ch 1 lp sp np bp pp rp, ddB lp (d.step r).1, raB ba wv (d.step r).2, raW wv n (d.step r).2]) hds how rfl (.t rfl) (List.Sublist.refl _) (⟨_, _, hD2, rfl, .inl ⟨hz, rfl⟩⟩)
theorem me_Step2 {mb fb lp ba n : Nat} {dv wv Dv Fv : Value} {l0 l : List Int} {x : Me} {gs : List Nat} {sp np bp pp : Option Nat} {ch rp : Int} {d : Dd} {r : Rr} (hg : gs.length ≤ 900000) {qb : Nat} {q : Dq} (hq : q.ok) (hn : r.w.length = n) (hN : n ≤ 1000000) (hf : r.few) (hw : r.mid 1152921504606846976) : FnX Tryz.prog 117 [.pointer (some ⟨mb, 0, none⟩), .pointer (some ⟨ba, 0, none⟩)] ([rdE zK dv l0]) ([meB mb Dv Fv x, rowE sK 187 Fv ((gs ++ [fb]).map ptS), frB fb ch 2 lp (some qb) np bp pp rp, dqB qb q, raB ba wv r, raW wv n r]) (fun v N => v = .bool false ∧ ((¬ (q.step r).1.line = 0 ∧ N = [meB mb Dv Fv x, rowE sK 187 Fv ((gs ++ [fb]).map ptS), frB fb ch 2 lp (some qb) np bp pp rp, dqB qb (q.step r).1, raB ba wv (q.step r).2, raW wv n (q.step r).2]) ∨ ((q.step r).1.line = 0 ∧ N = [meB mb Dv Fv x, rowE sK 187 Fv ((gs ++ [fb]).map ptS), frB fb ch 3 lp (some qb) np bp pp rp, dqB qb (q.step r).1, raB ba wv (q.step r).2, raW wv n (q.step r).2]))) := by
 refine FnX.enter Tryz.func117 (by kernel_rfl) rfl (n := 200) rfl rfl (fun w df hds how => ?_)
 have hml : ((gs ++ [fb]).map ptS).length = gs.length + 1 := (by simp)
 refine Y ?_
 refine At.drawK [tt 0, tt 1, tt 2, tt 3, tt 4, tt 5, tt 6, tt 7, tt 8, tt 9, tt 10, tt 11, tt 12] (by kernel_rfl) (by kernel_rfl) ?_
 refine U ?_
 refine sJ rfl (R.lenRd Tryz.underlying161 (.t rfl) (wK M2)) ?_
 refine sJ rfl (R.subI (.t rfl) .c gO) ?_
 refine sJ rfl (R.indexRd Tryz.underlying161 sz_187 (.t rfl) (wK M2) (.t rfl) gO) ?_
 refine sJ rfl (R.as (R.loadRd Tryz.underlying187 rfl (.t rfl) (wK M2) (fun hg => by exact Ek.get0 rfl (by omega))) (fun _ => congrArg Subtype.val (last_pt (gs := gs) (fb := fb)))) ?_
 refine Y ?_
 refine cM rfl rfl rfl (.k rfl (.k rfl .nil)) rfl (.n (.skip (.skip (.skip (.take (.take (.take .nil))))))) .nil (dq_Step (x := q) (r := r) hq hn hN hf hw) rfl .nil ⟨.all, ?_⟩
 refine W ?_
 refine At.condD (.t rfl) (fun c4 => ?_) (fun c4 => ?_)
 ·
  have hz : (q.step r).1.line = 0 := (by simpa using c4)
  refine W ?_
  refine At.st1 rfl rfl sz_3 (.t rfl) .c rfl rfl (.n U2) ⟨.all, ?_⟩
  refine Y ?_
  exact At.finalX (N' := [meB mb Dv Fv x, rowE sK 187 Fv ((gs ++ [fb]).map ptS), frB fb ch 3 lp (some qb) np bp pp rp, dqB qb (q.step r).1, raB ba wv (q.step r).2, raW wv n (q.step r).2]) hds how rfl (.t rfl) (List.Sublist.refl _) (⟨rfl, .inr ⟨hz, rfl⟩⟩)
 ·
  have hz : ¬ (q.step r).1.line = 0 := (by simpa using c4)
  refine Y ?_
  exact At.finalX (N' := [meB mb Dv Fv x, rowE sK 187 Fv ((gs ++ [fb]).map ptS), frB fb ch 2 lp (some qb) np bp pp rp, dqB qb (q.step r).1, raB ba wv (q.step r).2, raW wv n (q.step r).2]) hds how rfl (.t rfl) (List.Sublist.refl _) (⟨rfl, .inl ⟨hz, rfl⟩⟩)
theorem me_Step3 {mb fb lp ba n : Nat} {dv wv Dv Fv : Value} {l0 l : List Int} {x : Me} {gs : List Nat} {sp np bp pp : Option Nat} {ch rp : Int} {d : Dd} {r : Rr} (hg : gs.length ≤ 900000) (hc : -1152921504606846976 ≤ d.ch1 ∧ d.ch1 ≤ 1152921504606846976) (hn : r.w.length = n) (hN : n ≤ 1000000) (hf : r.few) (hw : r.mid 1152921504606846976) : FnX Tryz.prog 117 [.pointer (some ⟨mb, 0, none⟩), .pointer (some ⟨ba, 0, none⟩)] ([rdE zK dv l0]) ([meB mb Dv Fv x, rowE sK 187 Fv ((gs ++ [fb]).map ptS), frB fb ch 3 lp sp np bp pp rp, ddB lp d, raB ba wv r, raW wv n r]) (fun v N => v = .bool false ∧ (((r.peek (d.ch1 + 5)) = 0 ∧ N = [meB mb Dv Fv x, rowE sK 187 Fv ((gs ++ [fb]).map ptS), frB fb ch 4 lp sp np bp pp rp, ddB lp d, raB ba wv (r.load (d.ch1 + 5)), raW wv n (r.load (d.ch1 + 5))]) ∨ (¬ (r.peek (d.ch1 + 5)) = 0 ∧ ∃ pb2, N = [frB fb ch 6 lp sp np bp (some pb2) (r.peek (d.ch1 + 5)), ddB lp d, dpB pb2 (⟨x.th, (x.cap : Int), x.wd, x.ver, d.ch1, d.ch2, (r.peek (d.ch1 + 5)), 1, 0, 0, 0, 0, 0⟩ : Dp), meB mb Dv Fv x, rowE sK 187 Fv ((gs ++ [fb]).map ptS), raB ba wv (r.load (d.ch1 + 5)), raW wv n (r.load (d.ch1 + 5))]))) := by
 refine FnX.enter Tryz.func117 (by kernel_rfl) rfl (n := 200) rfl rfl (fun w df hds how => ?_)
 have hml : ((gs ++ [fb]).map ptS).length = gs.length + 1 := (by simp)
 refine Y ?_
 refine At.drawK [tt 0, tt 1, tt 2, tt 3, tt 4, tt 5, tt 6, tt 7, tt 8, tt 9, tt 10, tt 11, tt 12] (by kernel_rfl) (by kernel_rfl) ?_
 refine U ?_
 refine sJ rfl (R.lenRd Tryz.underlying161 (.t rfl) (wK M2)) ?_
 refine sJ rfl (R.subI (.t rfl) .c gO) ?_
 refine sJ rfl (R.indexRd Tryz.underlying161 sz_187 (.t rfl) (wK M2) (.t rfl) gO) ?_
 refine sJ rfl (R.as (R.loadRd Tryz.underlying187 rfl (.t rfl) (wK M2) (fun hg => by exact Ek.get0 rfl (by omega))) (fun _ => congrArg Subtype.val (last_pt (gs := gs) (fb := fb)))) ?_
 refine Y ?_
 refine At.callVR rfl rfl rfl (.k rfl .nil) (.blk (.st M4) .nil) (fun hg => dd_Chunks (b := lp) (x := d)) .all ?_
 refine W ?_
 refine At.st1 rfl rfl sz_3 (.t rfl) .c rfl rfl (.n U2) ⟨.all, ?_⟩
 refine W ?_
 refine cM rfl rfl rfl (.k rfl (.k rfl .nil)) rfl (.n (.skip (.skip (.skip (.skip (.take (.take .nil))))))) .nil (r_Load (r := r) (i := d.ch1 + 5) hn hN hf) keysRa .nil ⟨.all, ?_⟩
 refine Z ?_
 refine At.condN (.t rfl) (fun c5 => ?_) (fun c5 => ?_)
 ·
  have hz : ¬ (r.peek (d.ch1 + 5)) = 0 := (by simpa using c5)
  refine W ?_
  refine cX rfl rfl rfl (.k rfl (.k rfl (.k rfl .nil))) rfl (.skip (.skip (.take (.take .nil)))) .nil (fr_splice (fb := fb) (lp := lp) (th := x.th) (cap := x.cap) (wd := x.wd) (ver := x.ver) (rp := rp) (rp2 := (r.peek (d.ch1 + 5))) (d := d)) Aprt.nil (fun v B hR => ?_); obtain ⟨pb2, rfl, rfl⟩ := hR; refine ⟨.all, ?_⟩
  refine Y ?_
  exact At.finalX (N' := [frB fb ch 6 lp sp np bp (some pb2) (r.peek (d.ch1 + 5)), ddB lp d, dpB pb2 (⟨x.th, (x.cap : Int), x.wd, x.ver, d.ch1, d.ch2, (r.peek (d.ch1 + 5)), 1, 0, 0, 0, 0, 0⟩ : Dp), meB mb Dv Fv x, rowE sK 187 Fv ((gs ++ [fb]).map ptS), raB ba wv (r.load (d.ch1 + 5)), raW wv n (r.load (d.ch1 + 5))]) hds how rfl (.t rfl) (List.Sublist.refl _) (⟨rfl, .inr ⟨hz, pb2, rfl⟩⟩)
 ·
  have hz : (r.peek (d.ch1 + 5)) = 0 := (by simpa using c5)
  refine Y ?_
  exact At.finalX (N' := [meB mb Dv Fv x, rowE sK 187 Fv ((gs ++ [fb]).map ptS), frB fb ch 4 lp sp np bp pp rp, ddB lp d, raB ba wv (r.load (d.ch1 + 5)), raW wv n (r.load (d.ch1 + 5))]) hds how rfl (.t rfl) (List.Sublist.refl _) (⟨rfl, .inl ⟨hz, rfl⟩⟩)
theorem me_Step4a {mb fb lp ba n : Nat} {dv wv Dv Fv : Value} {l0 l : List Int} {x : Me} {gs : List Nat} {sp np bp pp : Option Nat} {ch rp : Int} {d : Dd} {r : Rr} (hg : gs.length ≤ 900000) (hn : r.w.length = n) (hN : n ≤ 1000000) (hf : r.few) (hw : r.mid 1152921504606846976) : FnX Tryz.prog 117 [.pointer (some ⟨mb, 0, none⟩), .pointer (some ⟨ba, 0, none⟩)] ([rdE zK dv l0]) ([meB mb Dv Fv x, rowE sK 187 Fv ((gs ++ [fb]).map ptS), frB fb ch 4 lp sp none bp pp rp, raB ba wv r, raW wv n r]) (fun v N => ∃ nb, v = .bool false ∧ N = [dnB nb (.slice none 0 0) (⟨x.th, (x.cap : Int), x.wd, x.ver, 0, 1, 0, 0, []⟩ : Dn), rowE zK 3 (.slice none 0 0) [], meB mb Dv Fv x, frB fb ch 4 lp sp (some nb) bp pp rp, raB ba wv (r.load 1), raW wv n (r.load 1), rowE sK 187 Fv ((gs ++ [fb]).map ptS)]) := by
 refine FnX.enter Tryz.func117 (by kernel_rfl) rfl (n := 200) rfl rfl (fun w df hds how => ?_)
 have hml : ((gs ++ [fb]).map ptS).length = gs.length + 1 := (by simp)
 refine Y ?_
 refine At.drawK [tt 0, tt 1, tt 2, tt 3, tt 4, tt 5, tt 6, tt 7, tt 8, tt 9, tt 10, tt 11, tt 12] (by kernel_rfl) (by kernel_rfl) ?_
 refine U ?_
 refine sJ rfl (R.lenRd Tryz.underlying161 (.t rfl) (wK M2)) ?_
 refine sJ rfl (R.subI (.t rfl) .c gO) ?_
 refine sJ rfl (R.indexRd Tryz.underlying161 sz_187 (.t rfl) (wK M2) (.t rfl) gO) ?_
 refine sJ rfl (R.as (R.loadRd Tryz.underlying187 rfl (.t rfl) (wK M2) (fun hg => by exact Ek.get0 rfl (by omega))) (fun _ => congrArg Subtype.val (last_pt (gs := gs) (fb := fb)))) ?_
 refine Y ?_
 refine cX rfl rfl rfl (.k rfl (.k rfl (.k rfl .nil))) rfl (.take (.skip (.take (.take (.take .nil))))) .nil (me_needs0 (mb := mb) (Dv := Dv) (Fv := Fv) (x := x) (fb := fb) (sp := sp) (bp := bp) (pp := pp) (ch := ch) (pt := 4) (rp := rp) (lp := lp) (d := d) hn hN hf hw) Aprt.nil (fun v B hR => ⟨.all, ?_⟩); obtain ⟨nb, rfl, rfl⟩ := hR
 refine Y ?_
 exact At.finalX (N' := [dnB nb (.slice none 0 0) (⟨x.th, (x.cap : Int), x.wd, x.ver, 0, 1, 0, 0, []⟩ : Dn), rowE zK 3 (.slice none 0 0) [], meB mb Dv Fv x, frB fb ch 4 lp sp (some nb) bp pp rp, raB ba wv (r.load 1), raW wv n (r.load 1), rowE sK 187 Fv ((gs ++ [fb]).map ptS)]) hds how rfl (.t rfl) (List.Sublist.refl _) (⟨nb, rfl, rfl⟩)
theorem me_Step4b {mb fb lp ba n : Nat} {dv wv Dv Fv : Value} {l0 l : List Int} {x : Me} {gs : List Nat} {sp np bp pp : Option Nat} {ch rp : Int} {d : Dd} {r : Rr} (hg : gs.length ≤ 900000) {nb : Nat} {Lv : Value} {y : Dn} (hy : y.ok) (hL : y.l.length ≤ 10000) (hz : ¬ (y.step r).1.line = 0) (hn : r.w.length = n) (hN : n ≤ 1000000) (hf : r.few) (hw : r.mid 1152921504606846976) : FnX Tryz.prog 117 [.pointer (some ⟨mb, 0, none⟩), .pointer (some ⟨ba, 0, none⟩)] ([rdE zK dv l0]) ([meB mb Dv Fv x, rowE sK 187 Fv ((gs ++ [fb]).map ptS), frB fb ch 4 lp sp (some nb) bp pp rp, ddB lp d, dnB nb Lv y, rowE zK 3 Lv y.l, raB ba wv r, raW wv n r]) (fun v N => ∃ Lv2, v = .bool false ∧ N = [dnB nb Lv2 (y.step r).1, rowE zK 3 Lv2 (y.step r).1.l, raB ba wv (y.step r).2, raW wv n (y.step r).2, meB mb Dv Fv x, frB fb ch 4 lp sp (some nb) bp pp rp, ddB lp d, rowE sK 187 Fv ((gs ++ [fb]).map ptS)]) := by
 refine FnX.enter Tryz.func117 (by kernel_rfl) rfl (n := 200) rfl rfl (fun w df hds how => ?_)
 have hml : ((gs ++ [fb]).map ptS).length = gs.length + 1 := (by simp)
 refine Y ?_
 refine At.drawK [tt 0, tt 1, tt 2, tt 3, tt 4, tt 5, tt 6, tt 7, tt 8, tt 9, tt 10, tt 11, tt 12] (by kernel_rfl) (by kernel_rfl) ?_
 refine U ?_
 refine sJ rfl (R.lenRd Tryz.underlying161 (.t rfl) (wK M2)) ?_
 refine sJ rfl (R.subI (.t rfl) .c gO) ?_
 refine sJ rfl (R.indexRd Tryz.underlying161 sz_187 (.t rfl) (wK M2) (.t rfl) gO) ?_
 refine sJ rfl (R.as (R.loadRd Tryz.underlying187 rfl (.t rfl) (wK M2) (fun hg => by exact Ek.get0 rfl (by omega))) (fun _ => congrArg Subtype.val (last_pt (gs := gs) (fb := fb)))) ?_
 refine Y ?_
 refine cX rfl rfl rfl (.k rfl (.k rfl (.k rfl .nil))) rfl (.take (.skip .all)) .nil (me_needs1 (mb := mb) (Dv := Dv) (Fv := Fv) (x := x) (fb := fb) (sp := sp) (bp := bp) (pp := pp) (ch := ch) (pt := 4) (rp := rp) (lp := lp) (d := d) (y := y) (Lv := Lv) hy hL hn hN hf hw) Aprt.nil (fun v B hR => ⟨.all, ?_⟩); obtain ⟨Lv2, rfl, hR⟩ := hR; obtain ⟨_, rfl⟩ := hR.resolve_right (fun h => hz h.1)
 refine Y ?_
 exact At.finalX (N' := [dnB nb Lv2 (y.step r).1, rowE zK 3 Lv2 (y.step r).1.l, raB ba wv (y.step r).2, raW wv n (y.step r).2, meB mb Dv Fv x, frB fb ch 4 lp sp (some nb) bp pp rp, ddB lp d, rowE sK 187 Fv ((gs ++ [fb]).map ptS)]) hds how rfl (.t rfl) (List.Sublist.refl _) (⟨Lv2, rfl, rfl⟩)
theorem me_Step4c {mb fb lp ba n : Nat} {dv wv Dv Fv : Value} {l0 l : List Int} {x : Me} {gs : List Nat} {sp np bp pp : Option Nat} {ch rp : Int} {d : Dd} {r : Rr} (hg : gs.length ≤ 900000) {nb : Nat} {Lv : Value} {y : Dn} (hy : y.ok) (hL : y.l.length ≤ 10000) (hz : (y.step r).1.line = 0) (hn : r.w.length = n) (hN : n ≤ 1000000) (hf : r.few) (hw : r.mid 1152921504606846976) : FnX Tryz.prog 117 [.pointer (some ⟨mb, 0, none⟩), .pointer (some ⟨ba, 0, none⟩)] ([rdE zK dv l0]) ([meB mb Dv Fv x, rowE sK 187 Fv ((gs ++ [fb]).map ptS), frB fb ch 4 lp sp (some nb) bp pp rp, ddB lp d, dnB nb Lv y, rowE zK 3 Lv y.l, raB ba wv r, raW wv n r]) (fun v N => ∃ Lv2 bb, v = .bool false ∧ N = [dbB bb Lv2 (.slice none 0 0) (.slice none 0 0) (.slice none 0 0) (⟨x.th, x.cap, x.wd, x.ver, d.ch1, d.ch2, d.ch3, 1, 0, 0, 0, 0, 0, 0, 0, 0⟩ : Db), rowE zK 3 Lv2 (y.step r).1.l, raB ba wv (y.step r).2, raW wv n (y.step r).2, meB mb Dv Fv x, frB fb ch 5 lp sp (some nb) (some bb) pp rp, ddB lp d, rowE sK 187 Fv ((gs ++ [fb]).map ptS)]) := by
 refine FnX.enter Tryz.func117 (by kernel_rfl) rfl (n := 200) rfl rfl (fun w df hds how => ?_)
 have hml : ((gs ++ [fb]).map ptS).length = gs.length + 1 := (by simp)
 refine Y ?_
 refine At.drawK [tt 0, tt 1, tt 2, tt 3, tt 4, tt 5, tt 6, tt 7, tt 8, tt 9, tt 10, tt 11, tt 12] (by kernel_rfl) (by kernel_rfl) ?_
 refine U ?_
 refine sJ rfl (R.lenRd Tryz.underlying161 (.t rfl) (wK M2)) ?_
 refine sJ rfl (R.subI (.t rfl) .c gO) ?_
 refine sJ rfl (R.indexRd Tryz.underlying161 sz_187 (.t rfl) (wK M2) (.t rfl) gO) ?_
 refine sJ rfl (R.as (R.loadRd Tryz.underlying187 rfl (.t rfl) (wK M2) (fun hg => by exact Ek.get0 rfl (by omega))) (fun _ => congrArg Subtype.val (last_pt (gs := gs) (fb := fb)))) ?_
 refine Y ?_
 refine cX rfl rfl rfl (.k rfl (.k rfl (.k rfl .nil))) rfl (.take (.skip .all)) .nil (me_needs1 (mb := mb) (Dv := Dv) (Fv := Fv) (x := x) (fb := fb) (sp := sp) (bp := bp) (pp := pp) (ch := ch) (pt := 4) (rp := rp) (lp := lp) (d := d) (y := y) (Lv := Lv) hy hL hn hN hf hw) Aprt.nil (fun v B hR => ⟨.all, ?_⟩); obtain ⟨Lv2, rfl, hR⟩ := hR; obtain ⟨_, bb, rfl⟩ := hR.resolve_left (fun h => h.1 hz)
 refine Y ?_
 exact At.finalX (N' := [dbB bb Lv2 (.slice none 0 0) (.slice none 0 0) (.slice none 0 0) (⟨x.th, x.cap, x.wd, x.ver, d.ch1, d.ch2, d.ch3, 1, 0, 0, 0, 0, 0, 0, 0, 0⟩ : Db), rowE zK 3 Lv2 (y.step r).1.l, raB ba wv (y.step r).2, raW wv n (y.step r).2, meB mb Dv Fv x, frB fb ch 5 lp sp (some nb) (some bb) pp rp, ddB lp d, rowE sK 187 Fv ((gs ++ [fb]).map ptS)]) hds how rfl (.t rfl) (List.Sublist.refl _) (⟨Lv2, bb, rfl, rfl⟩)
theorem me_Step6a {mb fb lp ba n : Nat} {dv wv Dv Fv : Value} {l0 l : List Int} {x : Me} {gs : List Nat} {sp np bp pp : Option Nat} {ch rp : Int} {d : Dd} {r : Rr} (hg : gs.length ≤ 900000) {pb : Nat} {l : List Int} {p : Dp} (hD : DrO dv l0 Dv l) (hp : p.ok) (hz : ¬ (p.step r).1.line = 0) (hn : r.w.length = n) (hN : n ≤ 1000000) (hf : r.few) (hw : r.mid 1152921504606846976) : FnX Tryz.prog 117 [.pointer (some ⟨mb, 0, none⟩), .pointer (some ⟨ba, 0, none⟩)] ([rdE zK dv l0]) ([meB mb Dv Fv x, rowE sK 187 Fv ((gs ++ [fb]).map ptS), frB fb ch 6 lp sp np bp (some pb) rp, ddB lp d, dpB pb p, raB ba wv r, raW wv n r]) (fun v N => v = .bool false ∧ N = [meB mb Dv Fv x, rowE sK 187 Fv ((gs ++ [fb]).map ptS), frB fb ch 6 lp sp np bp (some pb) rp, ddB lp d, dpB pb (p.step r).1, raB ba wv (p.step r).2, raW wv n (p.step r).2]) := by
 refine FnX.enter Tryz.func117 (by kernel_rfl) rfl (n := 200) rfl rfl (fun w df hds how => ?_)
 have hml : ((gs ++ [fb]).map ptS).length = gs.length + 1 := (by simp)
 refine Y ?_
 refine At.drawK [tt 0, tt 1, tt 2, tt 3, tt 4, tt 5, tt 6, tt 7, tt 8, tt 9, tt 10, tt 11, tt 12] (by kernel_rfl) (by kernel_rfl) ?_
 refine U ?_
 refine sJ rfl (R.lenRd Tryz.underlying161 (.t rfl) (wK M2)) ?_
 refine sJ rfl (R.subI (.t rfl) .c gO) ?_
 refine sJ rfl (R.indexRd Tryz.underlying161 sz_187 (.t rfl) (wK M2) (.t rfl) gO) ?_
 refine sJ rfl (R.as (R.loadRd Tryz.underlying187 rfl (.t rfl) (wK M2) (fun hg => by exact Ek.get0 rfl (by omega))) (fun _ => congrArg Subtype.val (last_pt (gs := gs) (fb := fb)))) ?_
 refine Y ?_
 refine cX rfl rfl rfl (.k rfl (.k rfl (.k rfl .nil))) rfl .all (.cons (rS M0) .nil) (me_splices (mb := mb) (fb := fb) (fs := gs ++ [fb]) (x := x) (p := p) hD (by simp; omega) (by simp) hp hn hN hf hw) (Aprt.ofPick .all) (fun v B hR => ⟨.all, ?_⟩); obtain ⟨rfl, hR⟩ := hR; obtain rfl : B = _ := (hR.resolve_right (fun h => h.elim (fun h => hz h.1) (fun h => hz h.1))).2
 refine Y ?_
 exact At.finalX (N' := [meB mb Dv Fv x, rowE sK 187 Fv ((gs ++ [fb]).map ptS), frB fb ch 6 lp sp np bp (some pb) rp, ddB lp d, dpB pb (p.step r).1, raB ba wv (p.step r).2, raW wv n (p.step r).2]) hds how rfl (.t rfl) (List.Sublist.refl _) (⟨rfl, rfl⟩)
theorem me_Step6b {mb fb lp ba n : Nat} {dv wv Dv Fv : Value} {l0 l : List Int} {x : Me} {gs : List Nat} {sp np bp pp : Option Nat} {ch rp : Int} {d : Dd} {r : Rr} (hg : gs.length ≤ 900000) {pb : Nat} {l : List Int} {p : Dp} (hD : DrO dv l0 Dv l) (hp : p.ok) (hz : (p.step r).1.line = 0) (hs : (p.step r).1.stuck = 0) (hn : r.w.length = n) (hN : n ≤ 1000000) (hf : r.few) (hw : r.mid 1152921504606846976) : FnX Tryz.prog 117 [.pointer (some ⟨mb, 0, none⟩), .pointer (some ⟨ba, 0, none⟩)] ([rdE zK dv l0]) ([meB mb Dv Fv x, rowE sK 187 Fv ((gs ++ [fb]).map ptS), frB fb ch 6 lp sp np bp (some pb) rp, ddB lp d, dpB pb p, raB ba wv r, raW wv n r]) (fun v N => ∃ Fv2, v = .bool (decide (gs.length = 0)) ∧ N = [meB mb Dv Fv2 x, rowE sK 187 Fv2 (gs.map ptS), raB ba wv (p.step r).2, raW wv n (p.step r).2]) := by
 refine FnX.enter Tryz.func117 (by kernel_rfl) rfl (n := 200) rfl rfl (fun w df hds how => ?_)
 have hml : ((gs ++ [fb]).map ptS).length = gs.length + 1 := (by simp)
 refine Y ?_
 refine At.drawK [tt 0, tt 1, tt 2, tt 3, tt 4, tt 5, tt 6, tt 7, tt 8, tt 9, tt 10, tt 11, tt 12] (by kernel_rfl) (by kernel_rfl) ?_
 refine U ?_
 refine sJ rfl (R.lenRd Tryz.underlying161 (.t rfl) (wK M2)) ?_
 refine sJ rfl (R.subI (.t rfl) .c gO) ?_
 refine sJ rfl (R.indexRd Tryz.underlying161 sz_187 (.t rfl) (wK M2) (.t rfl) gO) ?_
 refine sJ rfl (R.as (R.loadRd Tryz.underlying187 rfl (.t rfl) (wK M2) (fun hg => by exact Ek.get0 rfl (by omega))) (fun _ => congrArg Subtype.val (last_pt (gs := gs) (fb := fb)))) ?_
 refine Y ?_
 refine cX rfl rfl rfl (.k rfl (.k rfl (.k rfl .nil))) rfl .all (.cons (rS M0) .nil) (me_splices (mb := mb) (fb := fb) (fs := gs ++ [fb]) (x := x) (p := p) hD (by simp; omega) (by simp) hp hn hN hf hw) (Aprt.ofPick .all) (fun v B hR => ⟨.all, ?_⟩); obtain ⟨rfl, hR⟩ := hR; obtain ⟨Fv2, rfl⟩ := (((hR.resolve_left (fun h => h.1 hz)).resolve_right (fun h => h.2.1 hs)).2).2; have hgt := take_pt (gs := gs) (fb := fb); rw [hgt]
 refine Z ?_
 exact At.finalX (N' := [meB mb Dv Fv2 x, rowE sK 187 Fv2 (gs.map ptS), raB ba wv (p.step r).2, raW wv n (p.step r).2]) hds how rfl (.t rfl) (List.Sublist.refl _) (⟨Fv2, congrArg Value.bool (by rw [decide_eq_decide, List.length_map]; omega), rfl⟩)
theorem me_Step6c {mb fb lp ba n : Nat} {dv wv Dv Fv : Value} {l0 l : List Int} {x : Me} {gs : List Nat} {sp np bp pp : Option Nat} {ch rp : Int} {d : Dd} {r : Rr} (hg : gs.length ≤ 900000) {pb : Nat} {l : List Int} {p : Dp} (hD : DrO dv l0 Dv l) (hp : p.ok) (hz : (p.step r).1.line = 0) (hs : ¬ (p.step r).1.stuck = 0) (hn : r.w.length = n) (hN : n ≤ 1000000) (hf : r.few) (hw : r.mid 1152921504606846976) : FnX Tryz.prog 117 [.pointer (some ⟨mb, 0, none⟩), .pointer (some ⟨ba, 0, none⟩)] ([rdE zK dv l0]) ([meB mb Dv Fv x, rowE sK 187 Fv ((gs ++ [fb]).map ptS), frB fb ch 6 lp sp np bp (some pb) rp, ddB lp d, dpB pb p, raB ba wv r, raW wv n r]) (fun v N => ∃ vb fb2 lp2 pb2 dr, v = .bool false ∧ N = [rowE sK 187 vb ((gs ++ [fb] ++ [fb2]).map ptS), frB fb2 (p.step r).1.stuck 1 lp2 none none none none 0, ddB lp2 (⟨x.th, (x.cap : Int), x.wd, x.ver, (p.step r).1.stuck, dr, false, 1, 0, 0, 0, 0, false, 0⟩ : Dd), meB mb Dv vb x, frB fb ch 6 lp sp np bp (some pb2) rp, ddB lp d, dpB pb2 (⟨x.th, (x.cap : Int), x.wd, x.ver, d.ch1, d.ch2, rp, 1, 0, 0, 0, 0, 0⟩ : Dp), raB ba wv (p.step r).2, raW wv n (p.step r).2]) := by
 refine FnX.enter Tryz.func117 (by kernel_rfl) rfl (n := 200) rfl rfl (fun w df hds how => ?_)
 have hml : ((gs ++ [fb]).map ptS).length = gs.length + 1 := (by simp)
 refine Y ?_
 refine At.drawK [tt 0, tt 1, tt 2, tt 3, tt 4, tt 5, tt 6, tt 7, tt 8, tt 9, tt 10, tt 11, tt 12] (by kernel_rfl) (by kernel_rfl) ?_
 refine U ?_
 refine sJ rfl (R.lenRd Tryz.underlying161 (.t rfl) (wK M2)) ?_
 refine sJ rfl (R.subI (.t rfl) .c gO) ?_
 refine sJ rfl (R.indexRd Tryz.underlying161 sz_187 (.t rfl) (wK M2) (.t rfl) gO) ?_
 refine sJ rfl (R.as (R.loadRd Tryz.underlying187 rfl (.t rfl) (wK M2) (fun hg => by exact Ek.get0 rfl (by omega))) (fun _ => congrArg Subtype.val (last_pt (gs := gs) (fb := fb)))) ?_
 refine Y ?_
 refine cX rfl rfl rfl (.k rfl (.k rfl (.k rfl .nil))) rfl .all (.cons (rS M0) .nil) (me_splices (mb := mb) (fb := fb) (fs := gs ++ [fb]) (x := x) (p := p) hD (by simp; omega) (by simp) hp hn hN hf hw) (Aprt.ofPick .all) (fun v B hR => ⟨.all, ?_⟩); obtain ⟨rfl, hR⟩ := hR; obtain ⟨vb, fb2, lp2, pb2, dr, rfl⟩ := (((hR.resolve_left (fun h => h.1 hz)).resolve_left (fun h => hs h.2.1)).2).2; have hap : ([] ++ (gs ++ [fb]).map ptS) ++ [ptS fb2] = (gs ++ [fb] ++ [fb2]).map ptS := (by simp); rw [hap]; have hml2 : ((gs ++ [fb] ++ [fb2]).map ptS).length = gs.length + 2 := (by simp)
 refine Y ?_
 exact At.finalX (N' := [rowE sK 187 vb ((gs ++ [fb] ++ [fb2]).map ptS), frB fb2 (p.step r).1.stuck 1 lp2 none none none none 0, ddB lp2 (⟨x.th, (x.cap : Int), x.wd, x.ver, (p.step r).1.stuck, dr, false, 1, 0, 0, 0, 0, false, 0⟩ : Dd), meB mb Dv vb x, frB fb ch 6 lp sp np bp (some pb2) rp, ddB lp d, dpB pb2 (⟨x.th, (x.cap : Int), x.wd, x.ver, d.ch1, d.ch2, rp, 1, 0, 0, 0, 0, 0⟩ : Dp), raB ba wv (p.step r).2, raW wv n (p.step r).2]) hds how rfl (.t rfl) (List.Sublist.refl _) (⟨vb, fb2, lp2, pb2, dr, rfl, rfl⟩)
end Go.Proofs.YtbolanigdkgbdaaGreat
namespace Go.Proofs.YtbolanigdkgbdaaGreat
open Go Go.RowKit
set_option maxRecDepth 10000
set_option linter.unusedVariables false
set_option linter.unnecessarySimpa false
set_option linter.unusedSectionVars false
set_option maxHeartbeats 1000000
theorem fo_163_3 : fieldOff? Tryz.prog 163 3 = some 6 := by kernel_rfl
theorem me_Step5 {mb fb lp bb ba n k : Nat} {dv wv Dv Fv : Value} {l0 : List Int} {x : Me} {gs : List Nat} {sp np pp : Option Nat} {ch rp : Int} {d : Dd} {r : Rr} {NB : Hp} (hg : gs.length ≤ 900000) (hB : BuM k bb NB) (hr : r.okk n k) (hN : n ≤ 1000000) (hk : k ≤ 100000000) : FnX Tryz.prog 117 [.pointer (some ⟨mb, 0, none⟩), .pointer (some ⟨ba, 0, none⟩)] ([rdE zK dv l0]) (meB mb Dv Fv x :: rowE sK 187 Fv ((gs ++ [fb]).map ptS) :: frB fb ch 5 lp sp np (some bb) pp rp :: ddB lp d :: raB ba wv r :: raW wv n r :: NB) (fun v N => ∃ r2 : Rr, r2.okk n (k + 1) ∧ ((v = .bool false ∧ ∃ N1, BuM (k + 1) bb N1 ∧ N = meB mb Dv Fv x :: rowE sK 187 Fv ((gs ++ [fb]).map ptS) :: frB fb ch 5 lp sp np (some bb) pp rp :: ddB lp d :: raB ba wv r2 :: raW wv n r2 :: N1) ∨ (v = .bool true ∧ ∃ ev, N = [meB mb Dv (.slice none 0 0) (⟨x.th, x.cap, x.wd, x.ver, ev⟩ : Me), raB ba wv r2, raW wv n r2]) ∨ (v = .bool false ∧ ∃ pb2 rp2, Bd (k + 1) rp2 ∧ N = [frB fb ch 6 lp sp np (some bb) (some pb2) rp2, ddB lp d, dpB pb2 (⟨x.th, (x.cap : Int), x.wd, x.ver, d.ch1, d.ch2, rp2, 1, 0, 0, 0, 0, 0⟩ : Dp), meB mb Dv Fv x, rowE sK 187 Fv ((gs ++ [fb]).map ptS), raB ba wv r2, raW wv n r2]))) := by
 refine FnX.enter Tryz.func117 (by kernel_rfl) rfl (n := 200) rfl rfl (fun w df hds how => ?_)
 have hml : ((gs ++ [fb]).map ptS).length = gs.length + 1 := (by simp)
 refine Y ?_
 refine At.drawK [tt 0, tt 1, tt 2, tt 3, tt 4, tt 5, tt 6, tt 7, tt 8, tt 9, tt 10, tt 11, tt 12] (by kernel_rfl) (by kernel_rfl) ?_
 refine U ?_
 refine sJ rfl (R.lenRd Tryz.underlying161 (.t rfl) (wK M2)) ?_
 refine sJ rfl (R.subI (.t rfl) .c gO) ?_
 refine sJ rfl (R.indexRd Tryz.underlying161 sz_187 (.t rfl) (wK M2) (.t rfl) gO) ?_
 refine sJ rfl (R.as (R.loadRd Tryz.underlying187 rfl (.t rfl) (wK M2) (fun hg => by exact Ek.get0 rfl (by omega))) (fun _ => congrArg Subtype.val (last_pt (gs := gs) (fb := fb)))) ?_
 refine Y ?_
 refine cX rfl rfl rfl (.k rfl (.k rfl .nil)) rfl (.skip (.skip (.skip (.skip .all)))) .nil (bu_Step (wv := wv) (ba := ba) hB hr hN hk) Aprt.nil (fun v B hR => ⟨.all, ?_⟩); obtain ⟨e, r2, N1, rfl, rfl, hr2, he0, he1⟩ := hR; refine At.perm List.perm_append_comm ?_; refine At.re (N' := meB mb Dv Fv x :: rowE sK 187 Fv ((gs ++ [fb]).map ptS) :: frB fb ch 5 lp sp np (some bb) pp rp :: ddB lp d :: raB ba wv r2 :: raW wv n r2 :: N1) rfl ?_
 refine W ?_
 refine At.cond (.t rfl) (fun c7 => ?_) (fun c7 => ?_)
 ·
  obtain ⟨bx, bV, bL, bG, bW, rfl, hbx⟩ := he1 c7
  refine Z ?_
  refine At.condN (.t rfl) (fun c8 => ?_) (fun c8 => ?_)
  ·
   refine W ?_
   refine At.st1 rfl rfl sz_3 (.t rfl) (.t rfl) rfl rfl (.n U0) ⟨.all, ?_⟩
   refine W ?_
   refine At.st1 rfl rfl sz_161 (.t rfl) .c rfl rfl (.n U0) ⟨.all, ?_⟩
   refine W ?_
   refine eA rfl (R.lenSl Tryz.underlying161 (.t rfl)) ?_
   refine eA rfl (R.as (R.eql (.t rfl) .c) dR) ?_
   refine W ?_
   exact At.finalX (N' := [meB mb Dv (.slice none 0 0) (⟨x.th, x.cap, x.wd, x.ver, bx.e⟩ : Me), raB ba wv r2, raW wv n r2]) hds how rfl (.t rfl) sl (⟨r2, hr2, .inr (.inl ⟨rfl, _, rfl⟩)⟩)
  ·
   let F28 : Fr := [(175, pt fb 0), (176, pt mb 0), (177, pt mb 0), (178, pt mb 0), (179, true, .agg #[.int .i64 x.th, .int .i64 (x.cap : Int), .int .i64 x.wd, .int .i64 x.ver]), (180, pt fb 0), (181, pt fb 0), (182, pt fb 6), (183, pt bb 0), (184, pt bb 0), (185, pt bb 18), (186, iv bx.repl), (0, pt mb 0)]
   refine At.dag [tt 0, tt 1, tt 2, tt 3, tt 5, tt 6, tt 7] 6 (mF 13 [4, 8, 9, 10, 11, 12]) ([rdE zK dv l0]) (keepOf sl) (by kernel_rfl) (by kernel_rfl) (fun G hnode hdone => ?_)
   have g0 : ∀ (pb2 : Nat), At w 200 [rdE zK dv l0] (fs F28 8191) ([frB fb ch 6 lp sp np (some bb) (some pb2) bx.repl, ddB lp d, dpB pb2 (⟨x.th, (x.cap : Int), x.wd, x.ver, d.ch1, d.ch2, bx.repl, 1, 0, 0, 0, 0, 0⟩ : Dp), meB mb Dv Fv x, rowE sK 187 Fv ((gs ++ [fb]).map ptS), raB ba wv r2, raW wv n r2]) ([]) (G 0 (mF 13 [])) := fun pb2 => by
    refine hdone _ _ _ (by kernel_rfl) ?_
    refine W ?_
    refine eA rfl (R.as (R.eql (.t rfl) .c) dF) ?_
    refine W ?_
    exact At.finalX (N' := [frB fb ch 6 lp sp np (some bb) (some pb2) bx.repl, ddB lp d, dpB pb2 (⟨x.th, (x.cap : Int), x.wd, x.ver, d.ch1, d.ch2, bx.repl, 1, 0, 0, 0, 0, 0⟩ : Dp), meB mb Dv Fv x, rowE sK 187 Fv ((gs ++ [fb]).map ptS), raB ba wv r2, raW wv n r2]) hds how rfl (.t rfl) (List.Sublist.refl _) (⟨r2, hr2, .inr (.inr ⟨rfl, pb2, _, hbx.b_repl, rfl⟩)⟩)
   have g1 : ∀ (_ : True), At w 200 [rdE zK dv l0] (fs F28 8191) ([meB mb Dv Fv x, rowE sK 187 Fv ((gs ++ [fb]).map ptS), frB fb ch 5 lp sp np (some bb) pp rp, ddB lp d, raB ba wv r2, raW wv n r2, dbB bb bV bL bG bW bx]) ([]) (G 1 (mF 13 [12])) := fun _ => by
    refine hnode _ _ _ _ [(12, [], 0, (mF 13 []))] (by kernel_rfl) kz ?_
    ·
     refine cX rfl rfl rfl (.k rfl (.k rfl (.k rfl .nil))) rfl (.skip (.skip (.take (.take .nil)))) .nil (fr_splice (fb := fb) (lp := lp) (th := x.th) (cap := x.cap) (wd := x.wd) (ver := x.ver) (rp := rp) (rp2 := bx.repl) (d := d)) Aprt.nil (fun v B hR => ?_); obtain ⟨pb2, rfl, rfl⟩ := hR; refine ⟨kz, ?_⟩
     refine W ?_
     exact wk (g0 pb2)
   have g2 : ∀ (_ : True), At w 200 [rdE zK dv l0] (fs F28 6143) ([meB mb Dv Fv x, rowE sK 187 Fv ((gs ++ [fb]).map ptS), frB fb ch 5 lp sp np (some bb) pp rp, ddB lp d, raB ba wv r2, raW wv n r2, dbB bb bV bL bG bW bx]) ([]) (G 2 (mF 13 [11, 12])) := fun _ => by
    refine hnode _ _ _ _ [(11, [], 1, (mF 13 [12]))] (by kernel_rfl) kz ?_
    ·
     refine WD ?_
     exact wk (g1 trivial)
   have g3 : ∀ (_ : True), At w 200 [rdE zK dv l0] (fs F28 8175) ([meB mb Dv Fv x, rowE sK 187 Fv ((gs ++ [fb]).map ptS), frB fb ch 5 lp sp np (some bb) pp rp, ddB lp d, raB ba wv r2, raW wv n r2, dbB bb bV bL bG bW bx]) ([]) (G 2 (mF 13 [4, 12])) := fun _ => by
    refine hnode _ _ _ _ [(4, [], 1, (mF 13 [12]))] (by kernel_rfl) kz ?_
    ·
     refine WD ?_
     exact wk (g1 trivial)
   have g4 : ∀ (_ : True), At w 200 [rdE zK dv l0] (fs F28 6127) ([meB mb Dv Fv x, rowE sK 187 Fv ((gs ++ [fb]).map ptS), frB fb ch 5 lp sp np (some bb) pp rp, ddB lp d, raB ba wv r2, raW wv n r2, dbB bb bV bL bG bW bx]) ([]) (G 3 (mF 13 [4, 11, 12])) := fun _ => by
    refine hnode _ _ _ _ [(4, [], 2, (mF 13 [11, 12])), (11, [], 2, (mF 13 [4, 12]))] (by kernel_rfl) kz ?_
    refine ⟨?_, ?_⟩
    ·
     refine WD ?_
     exact wk (g2 trivial)
    ·
     refine WD ?_
     exact wk (g3 trivial)
   have g5 : ∀ (_ : True), At w 200 [rdE zK dv l0] (fs F28 4351) ([meB mb Dv Fv x, rowE sK 187 Fv ((gs ++ [fb]).map ptS), frB fb ch 5 lp sp np (some bb) pp rp, ddB lp d, raB ba wv r2, raW wv n r2, dbB bb bV bL bG bW bx]) ([]) (G 5 (mF 13 [8, 9, 10, 11, 12])) := fun _ => by
    refine hnode _ _ _ _ [(8, [tt 9, tt 10], 2, (mF 13 [11, 12]))] (by kernel_rfl) kz ?_
    ·
     refine WD ?_
     exact wk (g2 trivial)
   have g6 : ∀ (_ : True), At w 200 [rdE zK dv l0] (fs F28 4335) ([meB mb Dv Fv x, rowE sK 187 Fv ((gs ++ [fb]).map ptS), frB fb ch 5 lp sp np (some bb) pp rp, ddB lp d, raB ba wv r2, raW wv n r2, dbB bb bV bL bG bW bx]) ([]) (G 6 (mF 13 [4, 8, 9, 10, 11, 12])) := fun _ => by
    refine hnode _ _ _ _ [(4, [], 5, (mF 13 [8, 9, 10, 11, 12])), (8, [tt 9, tt 10], 3, (mF 13 [4, 11, 12]))] (by kernel_rfl) kz ?_
    refine ⟨?_, ?_⟩
    ·
     refine WD ?_
     exact wk (g5 trivial)
    ·
     refine WD ?_
     exact wk (g4 trivial)
   refine W ?_
   exact wk (g6 trivial)
 ·
  refine W ?_
  refine eA rfl (R.as (R.eql (.t rfl) .c) dF) ?_
  refine W ?_
  exact At.finalX (N' := meB mb Dv Fv x :: rowE sK 187 Fv ((gs ++ [fb]).map ptS) :: frB fb ch 5 lp sp np (some bb) pp rp :: ddB lp d :: raB ba wv r2 :: raW wv n r2 :: N1) hds how rfl (.t rfl) (List.Sublist.refl _) (⟨r2, hr2, .inl ⟨rfl, N1, he0 c7, rfl⟩⟩)
end Go.Proofs.YtbolanigdkgbdaaGreat
namespace Go.Proofs.YtbolanigdkgbdaaGreat
open Go Go.RowKit
set_option maxRecDepth 10000
set_option linter.unusedVariables false
set_option linter.unusedSectionVars false
set_option maxHeartbeats 1000000
instance : Inhabited Ent := ⟨.blk 0 (.cells #[] 0)⟩
theorem permOf (env : List Ent) (a b : List Nat) (h : a.isPerm b = true) (T : Hp) : ((a.map fun i => env.getD i default) ++ T).Perm ((b.map fun i => env.getD i default) ++ T) :=
  ((List.isPerm_iff.1 h).map _).append_right T
theorem FnX.nilRow {α : Type} (kk : Ek α) (E : TypeId) {P : Program} {f : FuncId} {args : List Value} {S A : Hp} {R : Value → Hp → Prop} (h : FnX P f args S A R) : FnX P f args S A (fun v N => ∃ N0, R v N0 ∧ N = rowE kk E (.slice none 0 0) [] :: N0) :=
  ⟨h.1, fun w hw => Calls.mono (h.2 w hw) fun e w' ⟨v, N, h1, h2, h3⟩ => ⟨v, _, ⟨N, h1, rfl⟩, h2, by letI : Df := ⟨[], keys A⟩; exact St.nilRow h3 kk E⟩⟩
theorem FnX.stepS {P : Program} {f : FuncId} {args : List Value} {S A T A' : Hp} {R R' : Value → Hp → Prop} (h : FnX P f args S A R) (hp : (A ++ T).Perm A') (hR : ∀ v B, R v B → ∃ M N' : Hp, M.Sublist (B ++ T) ∧ M.Perm N' ∧ R' v N') : FnX P f args S A' R' :=
  ((h.frame T).conv fun v N ⟨B, h1, h2⟩ => by subst h2; exact hR v B h1).perm hp
theorem Dd.bd.c1 {k : Nat} {d : Dd} (h : d.bd k) : Bd k d.ch1 := by unfold Dd.ch1; split; exact h.b_l; exact Bd.sm (by decide)
theorem Dd.bd.c2 {k : Nat} {d : Dd} (h : d.bd k) : Bd k d.ch2 := by
  unfold Dd.ch2; split
  · split
    · exact Bd.sm (by decide)
    · exact h.b_n
  · exact Bd.sm (by decide)
theorem Dd.bd.c3 {k : Nat} {d : Dd} (h : d.bd k) : Bd k d.ch3 := by unfold Dd.ch3; split; exact h.b_after; exact Bd.sm (by decide)
theorem Dd.bd.ok {k : Nat} {d : Dd} (h : d.bd k) (hk : k ≤ 100000000) : d.ok := by
  have h1 := h.b_chunk.big hk; have h2 := h.b_l.big hk; have h3 := h.b_n.big hk; have h4 := h.b_w.big hk
  exact ⟨by omega, by omega, by omega, by omega⟩
theorem Dq.bd.ok {k : Nat} {x : Dq} (h : x.bd k) (hk : k ≤ 100000000) : x.ok := by
  have h1 := h.b_chunk.big hk; have h2 := h.b_mate.big hk; have h3 := h.ii; have h4 := h.cap
  exact ⟨by omega, by omega, by omega, by omega⟩
theorem Dp.bd.ok {k : Nat} {x : Dp} (h : x.bd k) (hk : k ≤ 100000000) : x.ok := by
  have h1 := h.b_chunk.big hk; have h2 := h.b_mate.big hk; have h3 := h.th; have h4 := h.b_cur.big hk; have h5 := h.b_n.big hk
  exact ⟨by omega, by omega, by omega, by omega, by omega⟩
theorem Dn.bd.ok {k : Nat} {x : Dn} (h : x.bd k) (hk : k ≤ 100000000) : x.ok := by
  have h1 := h.b_e.big hk; have h2 := h.b_v.big hk; have h3 := h.tt; have h4 := h.th
  exact ⟨by omega, by omega, by omega⟩
def FrM (k fb : Nat) (N : Hp) : Prop := ∃ (ch pt rp : Int) (lp : Nat) (sp np bp pp : Option Nat) (d : Dd), d.bd k ∧ Bd k rp ∧
  ((pt = 1 ∧ np = none ∧ N = [frB fb ch pt lp sp np bp pp rp, ddB lp d]) ∨
   (pt = 2 ∧ np = none ∧ ∃ qb q, sp = some qb ∧ q.bd k ∧ N = [frB fb ch pt lp sp np bp pp rp, ddB lp d, dqB qb q]) ∨
   (pt = 3 ∧ np = none ∧ N = [frB fb ch pt lp sp np bp pp rp, ddB lp d]) ∨
   (pt = 4 ∧ np = none ∧ N = [frB fb ch pt lp sp np bp pp rp, ddB lp d]) ∨
   (pt = 4 ∧ ∃ nb Lv y, np = some nb ∧ y.bd k ∧ N = [frB fb ch pt lp sp np bp pp rp, ddB lp d, dnB nb Lv y, rowE zK 3 Lv y.l]) ∨
   (pt = 5 ∧ ∃ bb NB, bp = some bb ∧ BuM k bb NB ∧ N = frB fb ch pt lp sp np bp pp rp :: ddB lp d :: NB) ∨
   (pt = 6 ∧ ∃ pb p, pp = some pb ∧ p.bd k ∧ N = [frB fb ch pt lp sp np bp pp rp, ddB lp d, dpB pb p]))
inductive FrsM (k : Nat) : List Nat → Hp → Prop
  | nil : FrsM k [] []
  | snoc {gs : List Nat} {g : Nat} {NF NG : Hp} : FrsM k gs NG → FrM k g NF → FrsM k (gs ++ [g]) (NF ++ NG)
theorem BuM.le {k j b : Nat} {N : Hp} (h : BuM k b N) (hj : k ≤ j) : BuM j b N := by
  obtain ⟨x, Vv, Lv, Gv, Wv, hx, h⟩ := h
  refine ⟨x, Vv, Lv, Gv, Wv, hx.le hj, ?_⟩
  rcases h with ⟨vs, l, h1, h2, h3⟩ | ⟨gs, h1, h2, h3, h4, h5, h6, h7⟩ | ⟨ws, h1, h2, h3, h4, h5, h6⟩ | h
  · exact .inl ⟨vs, l, h1, h2.le hj, h3⟩
  · exact .inr (.inl ⟨gs, h1, h2, h3, h4, h5, h6, fun g hg => (h7 g hg).le hj⟩)
  · exact .inr (.inr (.inl ⟨ws, h1, h2, h3, h4, h5, fun w hw => (h6 w hw).le hj⟩))
  · exact .inr (.inr (.inr h))
theorem FrM.le {k j fb : Nat} {N : Hp} (h : FrM k fb N) (hj : k ≤ j) : FrM j fb N := by
  obtain ⟨ch, pt, rp, lp, sp, np, bp, pp, d, hd, hr, h⟩ := h
  refine ⟨ch, pt, rp, lp, sp, np, bp, pp, d, hd.le hj, hr.le hj, ?_⟩
  rcases h with h | ⟨h1, h2, qb, q, h3, h4, h5⟩ | h | h | ⟨h1, nb, Lv, y, h2, h3, h4⟩ | ⟨h1, bb, NB, h2, h3, h4⟩ | ⟨h1, pb, p, h2, h3, h4⟩
  · exact .inl h
  · exact .inr (.inl ⟨h1, h2, qb, q, h3, h4.le hj, h5⟩)
  · exact .inr (.inr (.inl h))
  · exact .inr (.inr (.inr (.inl h)))
  · exact .inr (.inr (.inr (.inr (.inl ⟨h1, nb, Lv, y, h2, h3.le hj, h4⟩))))
  · exact .inr (.inr (.inr (.inr (.inr (.inl ⟨h1, bb, NB, h2, h3.le hj, h4⟩)))))
  · exact .inr (.inr (.inr (.inr (.inr (.inr ⟨h1, pb, p, h2, h3.le hj, h4⟩)))))
theorem FrsM.le {k j : Nat} {gs : List Nat} {N : Hp} (h : FrsM k gs N) (hj : k ≤ j) : FrsM j gs N := by
  induction h with
  | nil => exact .nil
  | snoc _ h2 ih => exact .snoc ih (h2.le hj)
structure Me.ok (x : Me) : Prop where
  th : 1 ≤ x.th ∧ x.th ≤ 16
  cap : 1 ≤ x.cap ∧ x.cap ≤ 16
  wd : 0 ≤ x.wd ∧ x.wd ≤ 1000000
def MeT (k : Nat) (Fv : Value) (N : Hp) : Prop := ∃ gs fb NN, gs.length < k ∧ N = rowE sK 187 Fv ((gs ++ [fb]).map ptS) :: NN ∧ FrsM k (gs ++ [fb]) NN
def MeR (n k mb ba : Nat) (wv dv : Value) (l0 : List Int) (x0 : Me) : Value → Hp → Prop := fun v N => ∃ (e : Bool) (r : Rr) (x : Me) (Dv Fv : Value) (l : List Int) (NR : Hp), v = .bool e ∧ N = raB ba wv r :: raW wv n r :: meB mb Dv Fv x :: NR ∧
  r.okk n (k + 1) ∧ DrO dv l0 Dv l ∧ (e = false → x = x0 ∧ MeT (k + 1) Fv NR) ∧ (e = true → NR = [])
theorem FrsM.inv {k : Nat} {fs : List Nat} {N : Hp} (h : FrsM k fs N) : ∀ {gs : List Nat} {fb : Nat}, fs = gs ++ [fb] → ∃ NF NG, N = NF ++ NG ∧ FrM k fb NF ∧ FrsM k gs NG := by
  cases h with
  | nil => intro gs fb h; simp at h
  | snoc h1 h2 =>
    intro gs fb h
    obtain ⟨rfl, h3⟩ := List.append_inj' h rfl
    injection h3 with h3
    subst h3
    exact ⟨_, _, rfl, h2, h1⟩
theorem me_Step {n k mb ba : Nat} {wv dv Dv Fv : Value} {l0 l : List Int} {x : Me} {r : Rr} {NR : Hp} (hD : DrO dv l0 Dv l) (hx : x.ok) (hT : MeT k Fv NR) (hr : r.okk n k) (hn : n ≤ 1000000) (hk : k ≤ 800000) :
    FnX Tryz.prog 117 [.pointer (some ⟨mb, 0, none⟩), .pointer (some ⟨ba, 0, none⟩)] [rdE zK dv l0] (raB ba wv r :: raW wv n r :: meB mb Dv Fv x :: NR) (MeR n k mb ba wv dv l0 x) := by
  have hk2 : k ≤ 100000000 := by omega
  have hf := hr.few hk2; have hw := hr.big hk2; have hl0 := hr.len
  have hk1 : k ≤ k + 1 := Nat.le_succ k
  obtain ⟨gs, fb, NN, hgl, rfl, hF⟩ := hT
  obtain ⟨NF, NG, rfl, hfr, hfs⟩ := hF.inv rfl
  have hfs1 := hfs.le hk1
  have hgl1 : gs.length < k + 1 := by omega
  have hg9 : gs.length ≤ 900000 := by omega
  have hxt := hx.th; have hxc := hx.cap
  have hxi : 1 ≤ (x.cap : Int) ∧ (x.cap : Int) ≤ 16 := by omega
  have h00 : Bd (k + 1) 0 := Bd.sm (by decide)
  -- what goes on with the same frame
  have go : ∀ {Dv2 : Value} {l2 : List Int} {r2 : Rr} {N2 : Hp}, DrO dv l0 Dv2 l2 → r2.okk n (k + 1) → FrM (k + 1) fb N2 → MeR n k mb ba wv dv l0 x (.bool false) (raB ba wv r2 :: raW wv n r2 :: meB mb Dv2 Fv x :: rowE sK 187 Fv ((gs ++ [fb]).map ptS) :: (N2 ++ NG)) := fun hD2 hr2 h2 =>
    ⟨false, _, x, _, Fv, _, _, rfl, rfl, hr2, hD2, fun _ => ⟨rfl, gs, fb, _, hgl1, rfl, .snoc hfs1 h2⟩, fun h => nomatch h⟩
  obtain ⟨ch, pt, rp, lp, sp, np, bp, pp, d, hd, hrp, h⟩ := hfr
  have hd1 := hd.le hk1; have hrp1 := hrp.le hk1
  rcases h with ⟨rfl, rfl, rfl⟩ | ⟨rfl, rfl, qb, q, rfl, hq, rfl⟩ | ⟨rfl, rfl, rfl⟩ | ⟨rfl, rfl, rfl⟩ | ⟨rfl, nb, Lv, y, rfl, hy, rfl⟩ | ⟨rfl, bb, NB, rfl, hB, rfl⟩ | ⟨rfl, pb, p, rfl, hp, rfl⟩
  · have hst := hd.step hr
    refine FnX.stepS (T := NG) (me_Step1 (ba := ba) (wv := wv) (Fv := Fv) (x := x) (gs := gs) (fb := fb) (sp := sp) (np := none) (bp := bp) (pp := pp) (ch := ch) (rp := rp) (lp := lp) hg9 hD (hd.ok hk2) hl0 hn hf hw) (permOf [_, _, _, _, _, _] [0, 1, 2, 3, 4, 5] [4, 5, 0, 1, 2, 3] rfl _) ?_
    rintro v B ⟨Dv2, l2, hD2, rfl, ⟨hz, rfl⟩ | ⟨hz, qb, rfl⟩⟩
    · exact ⟨_, _, .refl _, permOf [_, _, _, _, _, _] [0, 1, 2, 3, 4, 5] [4, 5, 0, 1, 2, 3] rfl _, go hD2 hst.2 ⟨ch, 1, rp, lp, sp, none, bp, pp, _, hst.1, hrp1, .inl ⟨rfl, rfl, rfl⟩⟩⟩
    · refine ⟨_, _, .refl _, permOf [_, _, _, _, _, _, _] [0, 1, 2, 3, 4, 5, 6] [5, 6, 1, 2, 3, 4, 0] rfl _, go hD2 hst.2 ⟨ch, 2, rp, lp, some qb, none, bp, pp, _, hst.1, hrp1, .inr (.inl ⟨rfl, rfl, qb, _, rfl, ?_, rfl⟩)⟩⟩
      exact ⟨hst.1.c1, hst.1.c2, h00, hxi, by show (0 : Int) ≤ 0 ∧ (0 : Int) ≤ 32; decide, .inr (by show (0 : Int) < cellsD (x.cap : Int) (d.step r).1.ch2; have := cellsD_le (m := Dd.ch2 (d.step r).1) hxi; omega)⟩
  · have hst := hq.step hr
    refine FnX.stepS (T := ddB lp d :: NG) (me_Step2 (l := []) (sp := none) (d := d) (ba := ba) (wv := wv) (dv := dv) (l0 := l0) (Dv := Dv) (Fv := Fv) (x := x) (gs := gs) (fb := fb) (np := none) (bp := bp) (pp := pp) (ch := ch) (rp := rp) (lp := lp) (qb := qb) hg9 (hq.ok hk2) hl0 hn hf hw) (permOf [_, _, _, _, _, _, _] [0, 1, 2, 3, 4, 5, 6] [4, 5, 0, 1, 2, 6, 3] rfl _) ?_
    rintro v B ⟨rfl, ⟨hz, rfl⟩ | ⟨hz, rfl⟩⟩
    · exact ⟨_, _, .refl _, permOf [_, _, _, _, _, _, _] [0, 1, 2, 3, 4, 5, 6] [4, 5, 0, 1, 2, 6, 3] rfl _, go hD hst.2 ⟨ch, 2, rp, lp, some qb, none, bp, pp, _, hd1, hrp1, .inr (.inl ⟨rfl, rfl, qb, _, rfl, hst.1, rfl⟩)⟩⟩
    · exact ⟨[_, _, _, _, _, _] ++ NG, _, (by (apply List.Sublist.cons_cons; apply List.Sublist.cons_cons; apply List.Sublist.cons_cons; apply List.Sublist.cons; exact List.Sublist.refl _)), permOf [_, _, _, _, _, _] [0, 1, 2, 3, 4, 5] [3, 4, 0, 1, 2, 5] rfl _, go hD hst.2 ⟨ch, 3, rp, lp, some qb, none, bp, pp, _, hd1, hrp1, .inr (.inr (.inl ⟨rfl, rfl, rfl⟩))⟩⟩
  · have hc := hd.c1.big hk2
    refine FnX.stepS (T := NG) (me_Step3 (l := []) (ba := ba) (wv := wv) (dv := dv) (l0 := l0) (Dv := Dv) (Fv := Fv) (x := x) (gs := gs) (fb := fb) (sp := sp) (np := none) (bp := bp) (pp := pp) (ch := ch) (rp := rp) (lp := lp) hg9 (by omega) hl0 hn hf hw) (permOf [_, _, _, _, _, _] [0, 1, 2, 3, 4, 5] [4, 5, 0, 1, 2, 3] rfl _) ?_
    rintro v B ⟨rfl, ⟨hz, rfl⟩ | ⟨hz, pb2, rfl⟩⟩
    · exact ⟨_, _, .refl _, permOf [_, _, _, _, _, _] [0, 1, 2, 3, 4, 5] [4, 5, 0, 1, 2, 3] rfl _, go hD (hr.load _) ⟨ch, 4, rp, lp, sp, none, bp, pp, _, hd1, hrp1, .inr (.inr (.inr (.inl ⟨rfl, rfl, rfl⟩)))⟩⟩
    · refine ⟨_, _, .refl _, permOf [_, _, _, _, _, _, _] [0, 1, 2, 3, 4, 5, 6] [5, 6, 3, 4, 0, 1, 2] rfl _, go hD (hr.load _) ⟨ch, 6, _, lp, sp, none, bp, some pb2, _, hd1, (hr.pk _).up, .inr (.inr (.inr (.inr (.inr (.inr ⟨rfl, pb2, _, rfl, ?_, rfl⟩)))))⟩⟩
      exact ⟨hd1.c1, hd1.c2, (hr.pk _).up, h00, h00, h00, h00, h00, by show 0 ≤ x.th ∧ x.th ≤ 1000; omega⟩
  · refine FnX.stepS (T := ddB lp d :: NG) (me_Step4a (l := []) (np := none) (ba := ba) (wv := wv) (dv := dv) (l0 := l0) (Dv := Dv) (Fv := Fv) (x := x) (gs := gs) (fb := fb) (sp := sp) (bp := bp) (pp := pp) (ch := ch) (rp := rp) (lp := lp) (d := d) hg9 hl0 hn hf hw) (permOf [_, _, _, _, _, _] [0, 1, 2, 3, 4, 5] [3, 4, 0, 1, 2, 5] rfl _) ?_
    rintro v B ⟨nb, rfl, rfl⟩
    refine ⟨_, _, .refl _, permOf [_, _, _, _, _, _, _, _] [0, 1, 2, 3, 4, 5, 6, 7] [4, 5, 2, 6, 3, 7, 0, 1] rfl _, go hD (hr.load _) ⟨ch, 4, rp, lp, sp, some nb, bp, pp, _, hd1, hrp1, .inr (.inr (.inr (.inr (.inl ⟨rfl, nb, _, _, rfl, ?_, rfl⟩))))⟩⟩
    exact ⟨h00, h00, hxt, by show (0 : Int) ≤ 0 ∧ 0 ≤ x.th; omega, .inr (by show 0 < x.th; omega), by show (0 : Int) ≤ 0; decide⟩
  · have hst := hy.step hr
    have hyl : y.l.length ≤ 10000 := by have := hy.ll; have := hy.tt; have := hy.th; omega
    by_cases hz : (y.step r).1.line = 0
    · refine FnX.stepS (T := NG) (FnX.nilRow iK 43 (me_Step4c (l := []) (np := none) (ba := ba) (wv := wv) (dv := dv) (l0 := l0) (Dv := Dv) (Fv := Fv) (x := x) (gs := gs) (fb := fb) (sp := sp) (bp := bp) (pp := pp) (ch := ch) (rp := rp) (lp := lp) (d := d) (Lv := Lv) hg9 (hy.ok hk2) hyl hz hl0 hn hf hw)) (permOf [_, _, _, _, _, _, _, _] [0, 1, 2, 3, 4, 5, 6, 7] [6, 7, 0, 1, 2, 3, 4, 5] rfl _) ?_
      rintro v B ⟨N0, ⟨Lv2, bb, rfl, rfl⟩, rfl⟩
      refine ⟨_, _, .refl _, permOf [_, _, _, _, _, _, _, _, _] [0, 1, 2, 3, 4, 5, 6, 7, 8] [3, 4, 5, 8, 6, 7, 1, 2, 0] rfl _, go hD hst.2 (N2 := [_, _, _, _, _]) ⟨ch, 5, rp, lp, sp, some nb, some bb, pp, _, hd1, hrp1, .inr (.inr (.inr (.inr (.inr (.inl ⟨rfl, bb, [_, _, _], rfl, ?_, rfl⟩)))))⟩⟩
      exact ⟨_, Lv2, _, _, _, ⟨hd1.c1, hd1.c2, hd1.c3, h00, h00, h00, h00, hxc, hx.wd⟩, .inl ⟨_, [], rfl, (fun y hy => nomatch hy), .inl ⟨rfl, rfl, rfl⟩⟩⟩
    · refine FnX.stepS (T := NG) (me_Step4b (l := []) (np := none) (ba := ba) (wv := wv) (dv := dv) (l0 := l0) (Dv := Dv) (Fv := Fv) (x := x) (gs := gs) (fb := fb) (sp := sp) (bp := bp) (pp := pp) (ch := ch) (rp := rp) (lp := lp) (d := d) (Lv := Lv) hg9 (hy.ok hk2) hyl hz hl0 hn hf hw) (permOf [_, _, _, _, _, _, _, _] [0, 1, 2, 3, 4, 5, 6, 7] [6, 7, 0, 1, 2, 3, 4, 5] rfl _) ?_
      rintro v B ⟨Lv2, rfl, rfl⟩
      exact ⟨_, _, .refl _, permOf [_, _, _, _, _, _, _, _] [0, 1, 2, 3, 4, 5, 6, 7] [2, 3, 4, 7, 5, 6, 0, 1] rfl _, go hD hst.2 ⟨ch, 4, rp, lp, sp, some nb, bp, pp, _, hd1, hrp1, .inr (.inr (.inr (.inr (.inl ⟨rfl, nb, _, _, rfl, hst.1, rfl⟩))))⟩⟩
  · refine FnX.stepS (T := NG) (me_Step5 (ba := ba) (wv := wv) (dv := dv) (l0 := l0) (Dv := Dv) (Fv := Fv) (x := x) (gs := gs) (fb := fb) (sp := sp) (np := np) (pp := pp) (ch := ch) (rp := rp) (lp := lp) (d := d) hg9 hB hr hn hk2) (permOf [_, _, _, _, _, _] [0, 1, 2, 3, 4, 5] [4, 5, 0, 1, 2, 3] rfl (NB ++ NG)) ?_
    rintro v B ⟨r2, hr2, ⟨rfl, N1, hB1, rfl⟩ | ⟨rfl, ev, rfl⟩ | ⟨rfl, pb2, rp2, hp2, rfl⟩⟩
    · exact ⟨_, _, .refl _, permOf [_, _, _, _, _, _] [0, 1, 2, 3, 4, 5] [4, 5, 0, 1, 2, 3] rfl (N1 ++ NG), go hD hr2 (N2 := _ :: _ :: N1) ⟨ch, 5, rp, lp, sp, np, some bb, pp, _, hd1, hrp1, .inr (.inr (.inr (.inr (.inr (.inl ⟨rfl, bb, N1, rfl, hB1, rfl⟩)))))⟩⟩
    · exact ⟨[_, _, _], _, List.sublist_append_left _ _, permOf [_, _, _] [0, 1, 2] [1, 2, 0] rfl [], true, r2, _, Dv, _, l, [], rfl, rfl, hr2, hD, (fun h => nomatch h), fun _ => rfl⟩
    · refine ⟨_, _, .refl _, permOf [_, _, _, _, _, _, _] [0, 1, 2, 3, 4, 5, 6] [5, 6, 3, 4, 0, 1, 2] rfl _, go hD hr2 ⟨ch, 6, rp2, lp, sp, np, some bb, some pb2, _, hd1, hp2, .inr (.inr (.inr (.inr (.inr (.inr ⟨rfl, pb2, _, rfl, ?_, rfl⟩)))))⟩⟩
      exact ⟨hd1.c1, hd1.c2, hp2, h00, h00, h00, h00, h00, by show 0 ≤ x.th ∧ x.th ≤ 1000; omega⟩
  · have hst := hp.step hr
    have hpo := hp.ok hk2
    by_cases hz : (p.step r).1.line = 0
    · by_cases hs : (p.step r).1.stuck = 0
      · refine FnX.stepS (T := NG) (me_Step6b (l := []) (pp := none) (ba := ba) (wv := wv) (dv := dv) (l0 := l0) (Dv := Dv) (Fv := Fv) (x := x) (gs := gs) (fb := fb) (sp := sp) (np := np) (bp := bp) (ch := ch) (rp := rp) (lp := lp) (d := d) (pb := pb) hg9 hD hpo hz hs hl0 hn hf hw) (permOf [_, _, _, _, _, _, _] [0, 1, 2, 3, 4, 5, 6] [5, 6, 0, 1, 2, 3, 4] rfl _) ?_
        rintro v B ⟨Fv2, rfl, rfl⟩
        rcases List.eq_nil_or_concat gs with h | ⟨gs', fb', h⟩
        · subst h
          exact ⟨[_, _, _], _, (by (apply List.Sublist.cons_cons; apply List.Sublist.cons; apply List.Sublist.cons_cons; apply List.Sublist.cons_cons; exact List.nil_sublist _)), permOf [_, _, _] [0, 1, 2] [1, 2, 0] rfl [], true, _, _, Dv, Fv2, l, [], rfl, rfl, hst.2, hD, (fun h => nomatch h), fun _ => rfl⟩
        · rw [List.concat_eq_append] at h
          subst h
          have e : decide ((gs' ++ [fb']).length = 0) = false := decide_eq_false (by simp)
          rw [e]
          exact ⟨_, _, .refl _, permOf [_, _, _, _] [0, 1, 2, 3] [2, 3, 0, 1] rfl _, false, _, x, Dv, Fv2, l, _, rfl, rfl, hst.2, hD, fun _ => ⟨rfl, gs', fb', _, by simp at hgl1; omega, rfl, hfs1⟩, fun h => nomatch h⟩
      · refine FnX.stepS (T := NG) (me_Step6c (l := []) (pp := none) (ba := ba) (wv := wv) (dv := dv) (l0 := l0) (Dv := Dv) (Fv := Fv) (x := x) (gs := gs) (fb := fb) (sp := sp) (np := np) (bp := bp) (ch := ch) (rp := rp) (lp := lp) (d := d) (pb := pb) hg9 hD hpo hz hs hl0 hn hf hw) (permOf [_, _, _, _, _, _, _] [0, 1, 2, 3, 4, 5, 6] [5, 6, 0, 1, 2, 3, 4] rfl _) ?_
        rintro v B ⟨vb, fb2, lp2, pb2, dr, rfl, rfl⟩
        refine ⟨_, _, .refl _, permOf [_, _, _, _, _, _, _, _, _] [0, 1, 2, 3, 4, 5, 6, 7, 8] [7, 8, 3, 0, 1, 2, 4, 5, 6] rfl _, false, _, x, Dv, vb, l, _, rfl, rfl, hst.2, hD, fun _ => ⟨rfl, gs ++ [fb], fb2, _, by simp; omega, rfl, FrsM.snoc (NF := [_, _]) (NG := _ :: _ :: _ :: NG) (FrsM.snoc (NF := [_, _, _]) hfs1 ?_) ?_⟩, fun h => nomatch h⟩
        · exact ⟨ch, 6, rp, lp, sp, np, bp, some pb2, _, hd1, hrp1, .inr (.inr (.inr (.inr (.inr (.inr ⟨rfl, pb2, _, rfl, ⟨hd1.c1, hd1.c2, hrp1, h00, h00, h00, h00, h00, by show 0 ≤ x.th ∧ x.th ≤ 1000; omega⟩, rfl⟩)))))⟩
        · exact ⟨_, 1, 0, lp2, none, none, none, none, _, ⟨hst.1.b_stuck, h00, h00, h00, h00, h00⟩, h00, .inl ⟨rfl, rfl, rfl⟩⟩
    · refine FnX.stepS (T := NG) (me_Step6a (l := []) (pp := none) (ba := ba) (wv := wv) (dv := dv) (l0 := l0) (Dv := Dv) (Fv := Fv) (x := x) (gs := gs) (fb := fb) (sp := sp) (np := np) (bp := bp) (ch := ch) (rp := rp) (lp := lp) (d := d) (pb := pb) hg9 hD hpo hz hl0 hn hf hw) (permOf [_, _, _, _, _, _, _] [0, 1, 2, 3, 4, 5, 6] [5, 6, 0, 1, 2, 3, 4] rfl _) ?_
      rintro v B ⟨rfl, rfl⟩
      exact ⟨_, _, .refl _, permOf [_, _, _, _, _, _, _] [0, 1, 2, 3, 4, 5, 6] [5, 6, 0, 1, 2, 3, 4] rfl _, go hD hst.2 ⟨ch, 6, rp, lp, sp, np, bp, some pb, _, hd1, hrp1, .inr (.inr (.inr (.inr (.inr (.inr ⟨rfl, pb, _, rfl, hst.1, rfl⟩)))))⟩⟩
end Go.Proofs.YtbolanigdkgbdaaGreat
namespace Go.Proofs.YtbolanigdkgbdaaGreat
open Go Go.RowKit
set_option maxRecDepth 10000
set_option linter.unusedVariables false
set_option linter.unnecessarySimpa false
set_option linter.unusedSectionVars false
set_option maxHeartbeats 1000000
theorem bt_145 : buildTab Tryz.prog 145 = some (#[.int .i64 0, .int .i64 0, .int .i64 0, .int .i64 0, .int .i64 0, .int .i64 0, .slice none 0 0, .pointer none, .pointer none, .pointer none, .bool false, .int .i64 0, .int .i64 0, .bool false], [(0, 4), (4, 1), (5, 1), (6, 1), (7, 1), (8, 1), (9, 1), (10, 1), (11, 1), (12, 1), (13, 1)]) := by kernel_rfl
theorem fo_145_0 : fieldOff? Tryz.prog 145 0 = some 0 := by kernel_rfl
theorem fo_145_1 : fieldOff? Tryz.prog 145 1 = some 4 := by kernel_rfl
theorem fo_145_10 : fieldOff? Tryz.prog 145 10 = some 13 := by kernel_rfl
theorem fo_145_2 : fieldOff? Tryz.prog 145 2 = some 5 := by kernel_rfl
theorem fo_145_4 : fieldOff? Tryz.prog 145 4 = some 7 := by kernel_rfl
theorem fo_145_5 : fieldOff? Tryz.prog 145 5 = some 8 := by kernel_rfl
theorem fo_145_6 : fieldOff? Tryz.prog 145 6 = some 9 := by kernel_rfl
theorem fo_145_7 : fieldOff? Tryz.prog 145 7 = some 10 := by kernel_rfl
theorem sz_142 : (Tryz.prog.info? 142).map (·.size) = some 1 := by kernel_rfl
structure Pu where
  th : Int
  cap : Nat
  wd : Int
  ver : Int
  key : Int
  data : Int
  version : Int
  e : Int
  placed : Bool
abbrev puC (Dv : Value) (wp xp mp : Option Nat) (ov : Bool) (x : Pu) : Array Value := #[.int .i64 x.th, .int .i64 (x.cap : Int), .int .i64 x.wd, .int .i64 x.ver, .int .i64 x.key, .int .i64 x.data, Dv, ptO wp, ptO xp, ptO mp, .bool ov, .int .i64 x.version, .int .i64 x.e, .bool x.placed]
abbrev puB (b : Nat) (Dv : Value) (wp xp mp : Option Nat) (ov : Bool) (x : Pu) : Ent := .blk b (.cells (puC Dv wp xp mp ov x) 145)
theorem pu_New {dv Dv : Value} {l0 l : List Int} {th wd ver key data : Int} {cap : Nat} (hD : DrO dv l0 Dv l) : FnX Tryz.prog 98 [.agg #[.int .i64 th, .int .i64 (cap : Int), .int .i64 wd, .int .i64 ver], .int .i64 key, .int .i64 data, Dv] ([rdE zK dv l0]) ([]) (fun v N => ∃ pu wb, v = .pointer (some ⟨pu, 0, none⟩) ∧ N = [puB pu Dv (some wb) none none false (⟨th, cap, wd, ver, key, data, 0, 0, false⟩ : Pu), dwB wb (⟨th, (cap : Int), wd, ver, key, 1, 0, 0, 0, 0⟩ : Dw)]) := by
 refine FnX.enter Tryz.func98 (by kernel_rfl) rfl (n := 18) rfl rfl (fun w df hds how => ?_)
 refine At.sliceForm (drS hD) (fun sA scap hsv _ _ => ?_)
 subst hsv
 refine W ?_
 refine At.box rfl rfl rfl (.t rfl) (fun b1 hb1 => ⟨.all, ?_⟩)
 refine W ?_
 refine At.drawK [tt 0, tt 1, tt 2, tt 3, tt 4, tt 5, ff 6, tt 7, ff 8, tt 9] (by kernel_rfl) (by kernel_rfl) ?_
 refine W ?_
 refine cP rfl rfl rfl (.k rfl (.k rfl .nil)) rfl (dw_New (a := th) (b := (cap : Int)) (c := wd) (d := ver) (key := key)) (fun _ h => nomatch h) (fun v N1 H1 hR => ?_); obtain ⟨wb, rfl, rfl, rfl⟩ := hR; refine ⟨rfl, kz, ?_⟩
 refine sC rfl kz (R.build bt_145 (.k rfl (.k rfl (.k rfl (.k rfl (.k rfl .nil))))) (.cons rfl (.cons rfl (.cons rfl (.cons rfl (.cons rfl .nil))))) rfl) ?_
 refine At.box rfl rfl rfl (.t rfl) (fun b2 hb2 => ⟨kz, ?_⟩)
 refine W ?_
 exact At.finalX (N' := [puB b2 (.slice sA l.length scap) (some wb) none none false (⟨th, cap, wd, ver, key, data, 0, 0, false⟩ : Pu), dwB wb (⟨th, (cap : Int), wd, ver, key, 1, 0, 0, 0, 0⟩ : Dw)]) hds how rfl (.t rfl) sl (⟨b2, wb, rfl, rfl⟩)
theorem pu_Step0 {pu ba n : Nat} {dv wv Dv : Value} {l0 l : List Int} {x : Pu} {r : Rr} {wp xp mp : Option Nat}  : FnX Tryz.prog 103 [.pointer (some ⟨pu, 0, none⟩), .pointer (some ⟨ba, 0, none⟩)] ([rdE zK dv l0]) ([puB pu Dv wp xp mp true x]) (fun v N => v = .bool true ∧ N = [puB pu Dv wp xp mp true x]) := by
 refine FnX.enter Tryz.func103 (by kernel_rfl) rfl (n := 184) rfl rfl (fun w df hds how => ?_)
 refine W ?_
 exact At.finalX (N' := [puB pu Dv wp xp mp true x]) hds how rfl (.t rfl) (List.Sublist.refl _) (⟨rfl, rfl⟩)
theorem pu_StepW {pu ba n : Nat} {dv wv Dv : Value} {l0 l : List Int} {x : Pu} {r : Rr} {wb : Nat} {u : Dw} (hu : u.ok) (hn : r.w.length = n) (hN : n ≤ 1000000) (hf : r.few) (hw : r.mid 1152921504606846976) : FnX Tryz.prog 103 [.pointer (some ⟨pu, 0, none⟩), .pointer (some ⟨ba, 0, none⟩)] ([rdE zK dv l0]) ([puB pu Dv (some wb) none none false x, dwB wb u, raB ba wv r, raW wv n r]) (fun v N => v = .bool false ∧ ((¬ (u.step r).1.line = 0 ∧ N = [puB pu Dv (some wb) none none false (⟨x.th, x.cap, x.wd, x.ver, x.key, x.data, x.version, x.e, false⟩ : Pu), dwB wb (u.step r).1, raB ba wv (u.step r).2, raW wv n (u.step r).2]) ∨ ((u.step r).1.line = 0 ∧ ∃ xb, N = [dxB xb (⟨x.th, (x.cap : Int), x.wd, x.ver, (u.step r).1.at_, x.key, x.data, 1, -1, 0, -1⟩ : Dx), puB pu Dv (some wb) (some xb) none false (⟨x.th, x.cap, x.wd, x.ver, x.key, x.data, x.version, x.e, false⟩ : Pu), raB ba wv (u.step r).2, raW wv n (u.step r).2]))) := by
 refine FnX.enter Tryz.func103 (by kernel_rfl) rfl (n := 184) rfl rfl (fun w df hds how => ?_)
 refine W ?_
 refine At.st1 rfl rfl sz_4 (.t rfl) .c rfl rfl (.n U0) ⟨.all, ?_⟩
 refine W ?_
 refine eA rfl (R.neqNilP Tryz.underlying143 (.t rfl)) ?_
 refine W ?_
 refine eA rfl (R.neqNilP Tryz.underlying142 (.t rfl)) ?_
 refine W ?_
 refine cM rfl rfl rfl (.k rfl (.k rfl .nil)) rfl (.n (.skip (.take (.take (.take .nil))))) .nil (dw_Step (x := u) (r := r) hu hn hN hf hw) rfl .nil ⟨.all, ?_⟩
 refine W ?_
 refine At.condD (.t rfl) (fun c4 => ?_) (fun c4 => ?_)
 ·
  have hz : (u.step r).1.line = 0 := (by simpa using c4)
  let F13 : Nat → Fr := fun xb => [(157, pt pu 0), (158, pt pu 0), (159, pt pu 0), (160, pt pu 0), (161, true, .agg #[.int .i64 x.th, .int .i64 (x.cap : Int), .int .i64 x.wd, .int .i64 x.ver]), (162, pt pu 0), (163, pt pu 0), (164, pt pu 7), (165, pt wb 0), (166, pt wb 0), (167, pt wb 9), (168, true, .int .i64 (u.step r).1.at_), (169, pt pu 0), (170, pt pu 0), (171, pt pu 4), (172, iv x.key), (173, pt pu 0), (174, pt pu 0), (175, pt pu 5), (176, iv x.data), (177, pt xb 0), (178, pt pu 0), (179, pt pu 8), (0, pt pu 0)]
  refine At.dag [tt 0, tt 1, tt 2, tt 3, tt 5, tt 6, tt 7, tt 12, tt 13, tt 14, tt 16, tt 17, tt 18] 11 (mF 24 [4, 8, 9, 10, 11, 15, 19, 20, 21, 22, 23]) ([rdE zK dv l0]) (keepOf sl) (by kernel_rfl) (by kernel_rfl) (fun G hnode hdone => ?_)
  have g0 : ∀ (xb : Nat), At w 184 [rdE zK dv l0] (fs (F13 xb) 16777215) ([dxB xb (⟨x.th, (x.cap : Int), x.wd, x.ver, (u.step r).1.at_, x.key, x.data, 1, -1, 0, -1⟩ : Dx), puB pu Dv (some wb) (some xb) none false (⟨x.th, x.cap, x.wd, x.ver, x.key, x.data, x.version, x.e, false⟩ : Pu), dwB wb (u.step r).1, raB ba wv (u.step r).2, raW wv n (u.step r).2]) ([]) (G 0 (mF 24 [])) := fun xb => by
   refine hdone _ _ _ (by kernel_rfl) ?_
   refine W ?_
   exact At.finalX (N' := [dxB xb (⟨x.th, (x.cap : Int), x.wd, x.ver, (u.step r).1.at_, x.key, x.data, 1, -1, 0, -1⟩ : Dx), puB pu Dv (some wb) (some xb) none false (⟨x.th, x.cap, x.wd, x.ver, x.key, x.data, x.version, x.e, false⟩ : Pu), raB ba wv (u.step r).2, raW wv n (u.step r).2]) hds how rfl (.t rfl) sl (⟨rfl, .inr ⟨hz, xb, rfl⟩⟩)
  have g1 : ∀ (xb : Nat), At w 184 [rdE zK dv l0] (fs (F13 xb) 16777215) ([dxB xb (⟨x.th, (x.cap : Int), x.wd, x.ver, (u.step r).1.at_, x.key, x.data, 1, -1, 0, -1⟩ : Dx), puB pu Dv (some wb) none none false (⟨x.th, x.cap, x.wd, x.ver, x.key, x.data, x.version, x.e, false⟩ : Pu), dwB wb (u.step r).1, raB ba wv (u.step r).2, raW wv n (u.step r).2]) ([]) (G 1 (mF 24 [23])) := fun xb => by
   refine hnode _ _ _ _ [(23, [], 0, (mF 24 []))] (by kernel_rfl) kz ?_
   ·
    refine At.st1 rfl rfl sz_142 (.t rfl) (.t rfl) rfl rfl (.n U1) ⟨kz, ?_⟩
    refine W ?_
    exact wk (g0 xb)
  have g2 : ∀ (_ : True), At w 184 [rdE zK dv l0] (fs (F13 0) 9437183) ([puB pu Dv (some wb) none none false (⟨x.th, x.cap, x.wd, x.ver, x.key, x.data, x.version, x.e, false⟩ : Pu), dwB wb (u.step r).1, raB ba wv (u.step r).2, raW wv n (u.step r).2]) ([]) (G 4 (mF 24 [20, 21, 22, 23])) := fun _ => by
   refine hnode _ _ _ _ [(20, [tt 21, tt 22], 1, (mF 24 [23]))] (by kernel_rfl) kz ?_
   ·
    refine cP rfl rfl rfl (.k rfl (.k rfl (.k rfl (.k rfl .nil)))) rfl (dx_New (a := x.th) (b := (x.cap : Int)) (c := x.wd) (d := x.ver) (chunk := (u.step r).1.at_) (key := x.key) (data := x.data)) (fun _ h => nomatch h) (fun v N1 H1 hR => ?_); obtain ⟨xb, rfl, rfl, rfl⟩ := hR; refine ⟨rfl, kz, ?_⟩
    refine W ?_
    exact wk (g1 xb)
  have g3 : ∀ (_ : True), At w 184 [rdE zK dv l0] (fs (F13 0) 8912895) ([puB pu Dv (some wb) none none false (⟨x.th, x.cap, x.wd, x.ver, x.key, x.data, x.version, x.e, false⟩ : Pu), dwB wb (u.step r).1, raB ba wv (u.step r).2, raW wv n (u.step r).2]) ([]) (G 5 (mF 24 [19, 20, 21, 22, 23])) := fun _ => by
   refine hnode _ _ _ _ [(19, [], 4, (mF 24 [20, 21, 22, 23]))] (by kernel_rfl) kz ?_
   ·
    refine WD ?_
    exact wk (g2 trivial)
  have g4 : ∀ (_ : True), At w 184 [rdE zK dv l0] (fs (F13 0) 9404415) ([puB pu Dv (some wb) none none false (⟨x.th, x.cap, x.wd, x.ver, x.key, x.data, x.version, x.e, false⟩ : Pu), dwB wb (u.step r).1, raB ba wv (u.step r).2, raW wv n (u.step r).2]) ([]) (G 5 (mF 24 [15, 20, 21, 22, 23])) := fun _ => by
   refine hnode _ _ _ _ [(15, [], 4, (mF 24 [20, 21, 22, 23]))] (by kernel_rfl) kz ?_
   ·
    refine WD ?_
    exact wk (g2 trivial)
  have g5 : ∀ (_ : True), At w 184 [rdE zK dv l0] (fs (F13 0) 9435135) ([puB pu Dv (some wb) none none false (⟨x.th, x.cap, x.wd, x.ver, x.key, x.data, x.version, x.e, false⟩ : Pu), dwB wb (u.step r).1, raB ba wv (u.step r).2, raW wv n (u.step r).2]) ([]) (G 5 (mF 24 [11, 20, 21, 22, 23])) := fun _ => by
   refine hnode _ _ _ _ [(11, [], 4, (mF 24 [20, 21, 22, 23]))] (by kernel_rfl) kz ?_
   ·
    refine WD ?_
    exact wk (g2 trivial)
  have g6 : ∀ (_ : True), At w 184 [rdE zK dv l0] (fs (F13 0) 9437167) ([puB pu Dv (some wb) none none false (⟨x.th, x.cap, x.wd, x.ver, x.key, x.data, x.version, x.e, false⟩ : Pu), dwB wb (u.step r).1, raB ba wv (u.step r).2, raW wv n (u.step r).2]) ([]) (G 5 (mF 24 [4, 20, 21, 22, 23])) := fun _ => by
   refine hnode _ _ _ _ [(4, [], 4, (mF 24 [20, 21, 22, 23]))] (by kernel_rfl) kz ?_
   ·
    refine WD ?_
    exact wk (g2 trivial)
  have g7 : ∀ (_ : True), At w 184 [rdE zK dv l0] (fs (F13 0) 8880127) ([puB pu Dv (some wb) none none false (⟨x.th, x.cap, x.wd, x.ver, x.key, x.data, x.version, x.e, false⟩ : Pu), dwB wb (u.step r).1, raB ba wv (u.step r).2, raW wv n (u.step r).2]) ([]) (G 6 (mF 24 [15, 19, 20, 21, 22, 23])) := fun _ => by
   refine hnode _ _ _ _ [(15, [], 5, (mF 24 [19, 20, 21, 22, 23])), (19, [], 5, (mF 24 [15, 20, 21, 22, 23]))] (by kernel_rfl) kz ?_
   refine ⟨?_, ?_⟩
   ·
    refine WD ?_
    exact wk (g3 trivial)
   ·
    refine WD ?_
    exact wk (g4 trivial)
  have g8 : ∀ (_ : True), At w 184 [rdE zK dv l0] (fs (F13 0) 8910847) ([puB pu Dv (some wb) none none false (⟨x.th, x.cap, x.wd, x.ver, x.key, x.data, x.version, x.e, false⟩ : Pu), dwB wb (u.step r).1, raB ba wv (u.step r).2, raW wv n (u.step r).2]) ([]) (G 6 (mF 24 [11, 19, 20, 21, 22, 23])) := fun _ => by
   refine hnode _ _ _ _ [(11, [], 5, (mF 24 [19, 20, 21, 22, 23])), (19, [], 5, (mF 24 [11, 20, 21, 22, 23]))] (by kernel_rfl) kz ?_
   refine ⟨?_, ?_⟩
   ·
    refine WD ?_
    exact wk (g3 trivial)
   ·
    refine WD ?_
    exact wk (g5 trivial)
  have g9 : ∀ (_ : True), At w 184 [rdE zK dv l0] (fs (F13 0) 9402367) ([puB pu Dv (some wb) none none false (⟨x.th, x.cap, x.wd, x.ver, x.key, x.data, x.version, x.e, false⟩ : Pu), dwB wb (u.step r).1, raB ba wv (u.step r).2, raW wv n (u.step r).2]) ([]) (G 6 (mF 24 [11, 15, 20, 21, 22, 23])) := fun _ => by
   refine hnode _ _ _ _ [(11, [], 5, (mF 24 [15, 20, 21, 22, 23])), (15, [], 5, (mF 24 [11, 20, 21, 22, 23]))] (by kernel_rfl) kz ?_
   refine ⟨?_, ?_⟩
   ·
    refine WD ?_
    exact wk (g4 trivial)
   ·
    refine WD ?_
    exact wk (g5 trivial)
  have g10 : ∀ (_ : True), At w 184 [rdE zK dv l0] (fs (F13 0) 8912879) ([puB pu Dv (some wb) none none false (⟨x.th, x.cap, x.wd, x.ver, x.key, x.data, x.version, x.e, false⟩ : Pu), dwB wb (u.step r).1, raB ba wv (u.step r).2, raW wv n (u.step r).2]) ([]) (G 6 (mF 24 [4, 19, 20, 21, 22, 23])) := fun _ => by
   refine hnode _ _ _ _ [(4, [], 5, (mF 24 [19, 20, 21, 22, 23])), (19, [], 5, (mF 24 [4, 20, 21, 22, 23]))] (by kernel_rfl) kz ?_
   refine ⟨?_, ?_⟩
   ·
    refine WD ?_
    exact wk (g3 trivial)
   ·
    refine WD ?_
    exact wk (g6 trivial)
  have g11 : ∀ (_ : True), At w 184 [rdE zK dv l0] (fs (F13 0) 9404399) ([puB pu Dv (some wb) none none false (⟨x.th, x.cap, x.wd, x.ver, x.key, x.data, x.version, x.e, false⟩ : Pu), dwB wb (u.step r).1, raB ba wv (u.step r).2, raW wv n (u.step r).2]) ([]) (G 6 (mF 24 [4, 15, 20, 21, 22, 23])) := fun _ => by
   refine hnode _ _ _ _ [(4, [], 5, (mF 24 [15, 20, 21, 22, 23])), (15, [], 5, (mF 24 [4, 20, 21, 22, 23]))] (by kernel_rfl) kz ?_
   refine ⟨?_, ?_⟩
   ·
    refine WD ?_
    exact wk (g4 trivial)
   ·
    refine WD ?_
    exact wk (g6 trivial)
  have g12 : ∀ (_ : True), At w 184 [rdE zK dv l0] (fs (F13 0) 9435119) ([puB pu Dv (some wb) none none false (⟨x.th, x.cap, x.wd, x.ver, x.key, x.data, x.version, x.e, false⟩ : Pu), dwB wb (u.step r).1, raB ba wv (u.step r).2, raW wv n (u.step r).2]) ([]) (G 6 (mF 24 [4, 11, 20, 21, 22, 23])) := fun _ => by
   refine hnode _ _ _ _ [(4, [], 5, (mF 24 [11, 20, 21, 22, 23])), (11, [], 5, (mF 24 [4, 20, 21, 22, 23]))] (by kernel_rfl) kz ?_
   refine ⟨?_, ?_⟩
   ·
    refine WD ?_
    exact wk (g5 trivial)
   ·
    refine WD ?_
    exact wk (g6 trivial)
  have g13 : ∀ (_ : True), At w 184 [rdE zK dv l0] (fs (F13 0) 8878079) ([puB pu Dv (some wb) none none false (⟨x.th, x.cap, x.wd, x.ver, x.key, x.data, x.version, x.e, false⟩ : Pu), dwB wb (u.step r).1, raB ba wv (u.step r).2, raW wv n (u.step r).2]) ([]) (G 7 (mF 24 [11, 15, 19, 20, 21, 22, 23])) := fun _ => by
   refine hnode _ _ _ _ [(11, [], 6, (mF 24 [15, 19, 20, 21, 22, 23])), (15, [], 6, (mF 24 [11, 19, 20, 21, 22, 23])), (19, [], 6, (mF 24 [11, 15, 20, 21, 22, 23]))] (by kernel_rfl) kz ?_
   refine ⟨?_, ?_, ?_⟩
   ·
    refine WD ?_
    exact wk (g7 trivial)
   ·
    refine WD ?_
    exact wk (g8 trivial)
   ·
    refine WD ?_
    exact wk (g9 trivial)
  have g14 : ∀ (_ : True), At w 184 [rdE zK dv l0] (fs (F13 0) 8880111) ([puB pu Dv (some wb) none none false (⟨x.th, x.cap, x.wd, x.ver, x.key, x.data, x.version, x.e, false⟩ : Pu), dwB wb (u.step r).1, raB ba wv (u.step r).2, raW wv n (u.step r).2]) ([]) (G 7 (mF 24 [4, 15, 19, 20, 21, 22, 23])) := fun _ => by
   refine hnode _ _ _ _ [(4, [], 6, (mF 24 [15, 19, 20, 21, 22, 23])), (15, [], 6, (mF 24 [4, 19, 20, 21, 22, 23])), (19, [], 6, (mF 24 [4, 15, 20, 21, 22, 23]))] (by kernel_rfl) kz ?_
   refine ⟨?_, ?_, ?_⟩
   ·
    refine WD ?_
    exact wk (g7 trivial)
   ·
    refine WD ?_
    exact wk (g10 trivial)
   ·
    refine WD ?_
    exact wk (g11 trivial)
  have g15 : ∀ (_ : True), At w 184 [rdE zK dv l0] (fs (F13 0) 8910831) ([puB pu Dv (some wb) none none false (⟨x.th, x.cap, x.wd, x.ver, x.key, x.data, x.version, x.e, false⟩ : Pu), dwB wb (u.step r).1, raB ba wv (u.step r).2, raW wv n (u.step r).2]) ([]) (G 7 (mF 24 [4, 11, 19, 20, 21, 22, 23])) := fun _ => by
   refine hnode _ _ _ _ [(4, [], 6, (mF 24 [11, 19, 20, 21, 22, 23])), (11, [], 6, (mF 24 [4, 19, 20, 21, 22, 23])), (19, [], 6, (mF 24 [4, 11, 20, 21, 22, 23]))] (by kernel_rfl) kz ?_
   refine ⟨?_, ?_, ?_⟩
   ·
    refine WD ?_
    exact wk (g8 trivial)
   ·
    refine WD ?_
    exact wk (g10 trivial)
   ·
    refine WD ?_
    exact wk (g12 trivial)
  have g16 : ∀ (_ : True), At w 184 [rdE zK dv l0] (fs (F13 0) 9402351) ([puB pu Dv (some wb) none none false (⟨x.th, x.cap, x.wd, x.ver, x.key, x.data, x.version, x.e, false⟩ : Pu), dwB wb (u.step r).1, raB ba wv (u.step r).2, raW wv n (u.step r).2]) ([]) (G 7 (mF 24 [4, 11, 15, 20, 21, 22, 23])) := fun _ => by
   refine hnode _ _ _ _ [(4, [], 6, (mF 24 [11, 15, 20, 21, 22, 23])), (11, [], 6, (mF 24 [4, 15, 20, 21, 22, 23])), (15, [], 6, (mF 24 [4, 11, 20, 21, 22, 23]))] (by kernel_rfl) kz ?_
   refine ⟨?_, ?_, ?_⟩
   ·
    refine WD ?_
    exact wk (g9 trivial)
   ·
    refine WD ?_
    exact wk (g11 trivial)
   ·
    refine WD ?_
    exact wk (g12 trivial)
  have g17 : ∀ (_ : True), At w 184 [rdE zK dv l0] (fs (F13 0) 9433343) ([puB pu Dv (some wb) none none false (⟨x.th, x.cap, x.wd, x.ver, x.key, x.data, x.version, x.e, false⟩ : Pu), dwB wb (u.step r).1, raB ba wv (u.step r).2, raW wv n (u.step r).2]) ([]) (G 8 (mF 24 [8, 9, 10, 11, 20, 21, 22, 23])) := fun _ => by
   refine hnode _ _ _ _ [(8, [tt 9, tt 10], 5, (mF 24 [11, 20, 21, 22, 23]))] (by kernel_rfl) kz ?_
   ·
    refine WD ?_
    exact wk (g5 trivial)
  have g18 : ∀ (_ : True), At w 184 [rdE zK dv l0] (fs (F13 0) 8878063) ([puB pu Dv (some wb) none none false (⟨x.th, x.cap, x.wd, x.ver, x.key, x.data, x.version, x.e, false⟩ : Pu), dwB wb (u.step r).1, raB ba wv (u.step r).2, raW wv n (u.step r).2]) ([]) (G 8 (mF 24 [4, 11, 15, 19, 20, 21, 22, 23])) := fun _ => by
   refine hnode _ _ _ _ [(4, [], 7, (mF 24 [11, 15, 19, 20, 21, 22, 23])), (11, [], 7, (mF 24 [4, 15, 19, 20, 21, 22, 23])), (15, [], 7, (mF 24 [4, 11, 19, 20, 21, 22, 23])), (19, [], 7, (mF 24 [4, 11, 15, 20, 21, 22, 23]))] (by kernel_rfl) kz ?_
   refine ⟨?_, ?_, ?_, ?_⟩
   ·
    refine WD ?_
    exact wk (g13 trivial)
   ·
    refine WD ?_
    exact wk (g14 trivial)
   ·
    refine WD ?_
    exact wk (g15 trivial)
   ·
    refine WD ?_
    exact wk (g16 trivial)
  have g19 : ∀ (_ : True), At w 184 [rdE zK dv l0] (fs (F13 0) 8909055) ([puB pu Dv (some wb) none none false (⟨x.th, x.cap, x.wd, x.ver, x.key, x.data, x.version, x.e, false⟩ : Pu), dwB wb (u.step r).1, raB ba wv (u.step r).2, raW wv n (u.step r).2]) ([]) (G 9 (mF 24 [8, 9, 10, 11, 19, 20, 21, 22, 23])) := fun _ => by
   refine hnode _ _ _ _ [(8, [tt 9, tt 10], 6, (mF 24 [11, 19, 20, 21, 22, 23])), (19, [], 8, (mF 24 [8, 9, 10, 11, 20, 21, 22, 23]))] (by kernel_rfl) kz ?_
   refine ⟨?_, ?_⟩
   ·
    refine WD ?_
    exact wk (g8 trivial)
   ·
    refine WD ?_
    exact wk (g17 trivial)
  have g20 : ∀ (_ : True), At w 184 [rdE zK dv l0] (fs (F13 0) 9400575) ([puB pu Dv (some wb) none none false (⟨x.th, x.cap, x.wd, x.ver, x.key, x.data, x.version, x.e, false⟩ : Pu), dwB wb (u.step r).1, raB ba wv (u.step r).2, raW wv n (u.step r).2]) ([]) (G 9 (mF 24 [8, 9, 10, 11, 15, 20, 21, 22, 23])) := fun _ => by
   refine hnode _ _ _ _ [(8, [tt 9, tt 10], 6, (mF 24 [11, 15, 20, 21, 22, 23])), (15, [], 8, (mF 24 [8, 9, 10, 11, 20, 21, 22, 23]))] (by kernel_rfl) kz ?_
   refine ⟨?_, ?_⟩
   ·
    refine WD ?_
    exact wk (g9 trivial)
   ·
    refine WD ?_
    exact wk (g17 trivial)
  have g21 : ∀ (_ : True), At w 184 [rdE zK dv l0] (fs (F13 0) 9433327) ([puB pu Dv (some wb) none none false (⟨x.th, x.cap, x.wd, x.ver, x.key, x.data, x.version, x.e, false⟩ : Pu), dwB wb (u.step r).1, raB ba wv (u.step r).2, raW wv n (u.step r).2]) ([]) (G 9 (mF 24 [4, 8, 9, 10, 11, 20, 21, 22, 23])) := fun _ => by
   refine hnode _ _ _ _ [(4, [], 8, (mF 24 [8, 9, 10, 11, 20, 21, 22, 23])), (8, [tt 9, tt 10], 6, (mF 24 [4, 11, 20, 21, 22, 23]))] (by kernel_rfl) kz ?_
   refine ⟨?_, ?_⟩
   ·
    refine WD ?_
    exact wk (g17 trivial)
   ·
    refine WD ?_
    exact wk (g12 trivial)
  have g22 : ∀ (_ : True), At w 184 [rdE zK dv l0] (fs (F13 0) 8876287) ([puB pu Dv (some wb) none none false (⟨x.th, x.cap, x.wd, x.ver, x.key, x.data, x.version, x.e, false⟩ : Pu), dwB wb (u.step r).1, raB ba wv (u.step r).2, raW wv n (u.step r).2]) ([]) (G 10 (mF 24 [8, 9, 10, 11, 15, 19, 20, 21, 22, 23])) := fun _ => by
   refine hnode _ _ _ _ [(8, [tt 9, tt 10], 7, (mF 24 [11, 15, 19, 20, 21, 22, 23])), (15, [], 9, (mF 24 [8, 9, 10, 11, 19, 20, 21, 22, 23])), (19, [], 9, (mF 24 [8, 9, 10, 11, 15, 20, 21, 22, 23]))] (by kernel_rfl) kz ?_
   refine ⟨?_, ?_, ?_⟩
   ·
    refine WD ?_
    exact wk (g13 trivial)
   ·
    refine WD ?_
    exact wk (g19 trivial)
   ·
    refine WD ?_
    exact wk (g20 trivial)
  have g23 : ∀ (_ : True), At w 184 [rdE zK dv l0] (fs (F13 0) 8909039) ([puB pu Dv (some wb) none none false (⟨x.th, x.cap, x.wd, x.ver, x.key, x.data, x.version, x.e, false⟩ : Pu), dwB wb (u.step r).1, raB ba wv (u.step r).2, raW wv n (u.step r).2]) ([]) (G 10 (mF 24 [4, 8, 9, 10, 11, 19, 20, 21, 22, 23])) := fun _ => by
   refine hnode _ _ _ _ [(4, [], 9, (mF 24 [8, 9, 10, 11, 19, 20, 21, 22, 23])), (8, [tt 9, tt 10], 7, (mF 24 [4, 11, 19, 20, 21, 22, 23])), (19, [], 9, (mF 24 [4, 8, 9, 10, 11, 20, 21, 22, 23]))] (by kernel_rfl) kz ?_
   refine ⟨?_, ?_, ?_⟩
   ·
    refine WD ?_
    exact wk (g19 trivial)
   ·
    refine WD ?_
    exact wk (g15 trivial)
   ·
    refine WD ?_
    exact wk (g21 trivial)
  have g24 : ∀ (_ : True), At w 184 [rdE zK dv l0] (fs (F13 0) 9400559) ([puB pu Dv (some wb) none none false (⟨x.th, x.cap, x.wd, x.ver, x.key, x.data, x.version, x.e, false⟩ : Pu), dwB wb (u.step r).1, raB ba wv (u.step r).2, raW wv n (u.step r).2]) ([]) (G 10 (mF 24 [4, 8, 9, 10, 11, 15, 20, 21, 22, 23])) := fun _ => by
   refine hnode _ _ _ _ [(4, [], 9, (mF 24 [8, 9, 10, 11, 15, 20, 21, 22, 23])), (8, [tt 9, tt 10], 7, (mF 24 [4, 11, 15, 20, 21, 22, 23])), (15, [], 9, (mF 24 [4, 8, 9, 10, 11, 20, 21, 22, 23]))] (by kernel_rfl) kz ?_
   refine ⟨?_, ?_, ?_⟩
   ·
    refine WD ?_
    exact wk (g20 trivial)
   ·
    refine WD ?_
    exact wk (g16 trivial)
   ·
    refine WD ?_
    exact wk (g21 trivial)
  have g25 : ∀ (_ : True), At w 184 [rdE zK dv l0] (fs (F13 0) 8876271) ([puB pu Dv (some wb) none none false (⟨x.th, x.cap, x.wd, x.ver, x.key, x.data, x.version, x.e, false⟩ : Pu), dwB wb (u.step r).1, raB ba wv (u.step r).2, raW wv n (u.step r).2]) ([]) (G 11 (mF 24 [4, 8, 9, 10, 11, 15, 19, 20, 21, 22, 23])) := fun _ => by
   refine hnode _ _ _ _ [(4, [], 10, (mF 24 [8, 9, 10, 11, 15, 19, 20, 21, 22, 23])), (8, [tt 9, tt 10], 8, (mF 24 [4, 11, 15, 19, 20, 21, 22, 23])), (15, [], 10, (mF 24 [4, 8, 9, 10, 11, 19, 20, 21, 22, 23])), (19, [], 10, (mF 24 [4, 8, 9, 10, 11, 15, 20, 21, 22, 23]))] (by kernel_rfl) kz ?_
   refine ⟨?_, ?_, ?_, ?_⟩
   ·
    refine WD ?_
    exact wk (g22 trivial)
   ·
    refine WD ?_
    exact wk (g18 trivial)
   ·
    refine WD ?_
    exact wk (g23 trivial)
   ·
    refine WD ?_
    exact wk (g24 trivial)
  refine W ?_
  exact wk (g25 trivial)
 ·
  have hz : ¬ (u.step r).1.line = 0 := (by simpa using c4)
  refine W ?_
  exact At.finalX (N' := [puB pu Dv (some wb) none none false (⟨x.th, x.cap, x.wd, x.ver, x.key, x.data, x.version, x.e, false⟩ : Pu), dwB wb (u.step r).1, raB ba wv (u.step r).2, raW wv n (u.step r).2]) hds how rfl (.t rfl) (List.Sublist.refl _) (⟨rfl, .inl ⟨hz, rfl⟩⟩)
end Go.Proofs.YtbolanigdkgbdaaGreat
namespace Go.Proofs.YtbolanigdkgbdaaGreat
open Go Go.RowKit
set_option maxRecDepth 10000
set_option linter.unusedVariables false
set_option linter.unnecessarySimpa false
set_option linter.unusedSectionVars false
set_option maxHeartbeats 1000000
theorem fo_145_3 : fieldOff? Tryz.prog 145 3 = some 6 := by kernel_rfl
theorem fo_145_8 : fieldOff? Tryz.prog 145 8 = some 11 := by kernel_rfl
theorem fo_145_9 : fieldOff? Tryz.prog 145 9 = some 12 := by kernel_rfl
theorem sz_143 : (Tryz.prog.info? 143).map (·.size) = some 1 := by kernel_rfl
theorem pu_StepX {pu ba n : Nat} {dv wv Dv : Value} {l0 l : List Int} {x : Pu} {r : Rr} {wp : Option Nat} {xb : Nat} {q : Dx} (hD : DrO dv l0 Dv l) (hq : q.ok) (hn : r.w.length = n) (hN : n ≤ 1000000) (hf : r.few) (hw : r.mid 1152921504606846976) : FnX Tryz.prog 103 [.pointer (some ⟨pu, 0, none⟩), .pointer (some ⟨ba, 0, none⟩)] ([rdE zK dv l0]) ([puB pu Dv wp (some xb) none false x, dxB xb q, raB ba wv r, raW wv n r]) (fun v N => ∃ pl, (¬ (q.step r).1.line = 0 ∧ v = .bool false ∧ N = [puB pu Dv wp (some xb) none false (⟨x.th, x.cap, x.wd, x.ver, x.key, x.data, x.version, x.e, pl⟩ : Pu), dxB xb (q.step r).1, raB ba wv (q.step r).2, raW wv n (q.step r).2]) ∨ (v = .bool true ∧ N = [puB pu Dv wp (some xb) none true (⟨x.th, x.cap, x.wd, x.ver, x.key, x.data, ((q.step r).1.version), x.e, pl⟩ : Pu), dxB xb (q.step r).1, raB ba wv (q.step r).2, raW wv n (q.step r).2]) ∨ (v = .bool false ∧ ∃ mb vb fb lp dr, N = [rowE sK 187 vb ([ptS fb]), frB fb (q.step r).1.chunk 1 lp none none none none 0, ddB lp (⟨x.th, (x.cap : Int), x.wd, x.ver, (q.step r).1.chunk, dr, false, 1, 0, 0, 0, 0, false, 0⟩ : Dd), meB mb Dv vb (⟨x.th, x.cap, x.wd, x.ver, 0⟩ : Me), puB pu Dv wp (some xb) (some mb) false (⟨x.th, x.cap, x.wd, x.ver, x.key, x.data, x.version, x.e, pl⟩ : Pu), dxB xb (q.step r).1, raB ba wv (q.step r).2, raW wv n (q.step r).2])) := by
 refine FnX.enter Tryz.func103 (by kernel_rfl) rfl (n := 184) rfl rfl (fun w df hds how => ?_)
 refine W ?_
 refine At.st1 rfl rfl sz_4 (.t rfl) .c rfl rfl (.n U0) ⟨.all, ?_⟩
 refine W ?_
 refine eA rfl (R.neqNilP Tryz.underlying143 (.t rfl)) ?_
 refine W ?_
 refine eA rfl (R.neqNilP Tryz.underlying142 (.t rfl)) ?_
 refine W ?_
 refine cM rfl rfl rfl (.k rfl (.k rfl .nil)) rfl (.n (.skip (.take (.take (.take .nil))))) .nil (dx_Step (x := q) (r := r) hq hn hN hf hw) rfl .nil ⟨.all, ?_⟩
 refine W ?_
 refine At.condD (.t rfl) (fun c4 => ?_) (fun c4 => ?_)
 ·
  have hz : (q.step r).1.line = 0 := (by simpa using c4)
  refine Z ?_
  refine At.condD (.t rfl) (fun c5 => ?_) (fun c5 => ?_)
  ·
   refine W ?_
   refine At.st1 rfl rfl sz_3 (.t rfl) (.t rfl) rfl rfl (.n U0) ⟨.all, ?_⟩
   refine W ?_
   refine At.st1 rfl rfl sz_4 (.t rfl) .c rfl rfl (.n U0) ⟨.all, ?_⟩
   refine Z ?_
   refine At.st1 rfl rfl sz_4 (.t rfl) (.t rfl) rfl rfl (.n U0) ⟨.all, ?_⟩
   refine W ?_
   exact At.finalX (N' := [puB pu Dv wp (some xb) none true (⟨x.th, x.cap, x.wd, x.ver, x.key, x.data, ((q.step r).1.version), x.e, (decide (q.i < 0) && decide (0 ≤ (q.step r).1.i))⟩ : Pu), dxB xb (q.step r).1, raB ba wv (q.step r).2, raW wv n (q.step r).2]) hds how rfl (.t rfl) (List.Sublist.refl _) (⟨_, .inr (.inl ⟨rfl, rfl⟩)⟩)
  ·
   let F25 : Nat → Fr := fun mb => [(116, pt pu 0), (117, pt pu 0), (118, pt pu 0), (119, pt pu 0), (120, true, .agg #[.int .i64 x.th, .int .i64 (x.cap : Int), .int .i64 x.wd, .int .i64 x.ver]), (121, pt pu 0), (122, pt pu 0), (123, pt pu 8), (124, pt xb 0), (125, pt xb 0), (126, pt xb 4), (127, true, .int .i64 (q.step r).1.chunk), (128, pt pu 0), (129, pt pu 0), (130, pt pu 6), (131, true, Dv), (132, pt mb 0), (133, pt pu 0), (134, pt pu 9), (0, pt pu 0), (6, iv q.i)]
   refine At.dag [tt 0, tt 1, tt 2, tt 3, tt 5, tt 6, tt 7, tt 12, tt 13, tt 14] 10 (mF 20 [4, 8, 9, 10, 11, 15, 16, 17, 18, 19]) ([rdE zK dv l0]) (keepOf sl) (by kernel_rfl) (by kernel_rfl) (fun G hnode hdone => ?_)
   have g0 : ∀ (mb : Nat) (vb : Value) (fb lp : Nat) (dr : Bool), At w 184 [rdE zK dv l0] (fs (F25 mb) 2097151) ([rowE sK 187 vb ([ptS fb]), frB fb (q.step r).1.chunk 1 lp none none none none 0, ddB lp (⟨x.th, (x.cap : Int), x.wd, x.ver, (q.step r).1.chunk, dr, false, 1, 0, 0, 0, 0, false, 0⟩ : Dd), meB mb Dv vb (⟨x.th, x.cap, x.wd, x.ver, 0⟩ : Me), puB pu Dv wp (some xb) (some mb) false (⟨x.th, x.cap, x.wd, x.ver, x.key, x.data, x.version, x.e, false⟩ : Pu), dxB xb (q.step r).1, raB ba wv (q.step r).2, raW wv n (q.step r).2]) ([]) (G 0 (mF 20 [])) := fun mb vb fb lp dr => by
    refine hdone _ _ _ (by kernel_rfl) ?_
    refine Z ?_
    refine At.st1 rfl rfl sz_4 (.t rfl) (.t rfl) rfl rfl (.n U4) ⟨.all, ?_⟩
    refine W ?_
    exact At.finalX (N' := [rowE sK 187 vb ([ptS fb]), frB fb (q.step r).1.chunk 1 lp none none none none 0, ddB lp (⟨x.th, (x.cap : Int), x.wd, x.ver, (q.step r).1.chunk, dr, false, 1, 0, 0, 0, 0, false, 0⟩ : Dd), meB mb Dv vb (⟨x.th, x.cap, x.wd, x.ver, 0⟩ : Me), puB pu Dv wp (some xb) (some mb) false (⟨x.th, x.cap, x.wd, x.ver, x.key, x.data, x.version, x.e, (decide (q.i < 0) && decide (0 ≤ (q.step r).1.i))⟩ : Pu), dxB xb (q.step r).1, raB ba wv (q.step r).2, raW wv n (q.step r).2]) hds how rfl (.t rfl) (List.Sublist.refl _) (⟨_, .inr (.inr ⟨rfl, mb, vb, fb, lp, dr, rfl⟩)⟩)
   have g1 : ∀ (mb : Nat) (vb : Value) (fb lp : Nat) (dr : Bool), At w 184 [rdE zK dv l0] (fs (F25 mb) 2097151) ([rowE sK 187 vb ([ptS fb]), frB fb (q.step r).1.chunk 1 lp none none none none 0, ddB lp (⟨x.th, (x.cap : Int), x.wd, x.ver, (q.step r).1.chunk, dr, false, 1, 0, 0, 0, 0, false, 0⟩ : Dd), meB mb Dv vb (⟨x.th, x.cap, x.wd, x.ver, 0⟩ : Me), puB pu Dv wp (some xb) none false (⟨x.th, x.cap, x.wd, x.ver, x.key, x.data, x.version, x.e, false⟩ : Pu), dxB xb (q.step r).1, raB ba wv (q.step r).2, raW wv n (q.step r).2]) ([]) (G 1 (mF 20 [19])) := fun mb vb fb lp dr => by
    refine hnode _ _ _ _ [(19, [], 0, (mF 20 []))] (by kernel_rfl) kz ?_
    ·
     refine At.st1 rfl rfl sz_143 (.t rfl) (.t rfl) rfl rfl (.n U4) ⟨kz, ?_⟩
     refine W ?_
     exact wk (g0 mb vb fb lp dr)
   have g2 : ∀ (_ : True), At w 184 [rdE zK dv l0] (fs (F25 0) 1638399) ([puB pu Dv wp (some xb) none false (⟨x.th, x.cap, x.wd, x.ver, x.key, x.data, x.version, x.e, false⟩ : Pu), dxB xb (q.step r).1, raB ba wv (q.step r).2, raW wv n (q.step r).2]) ([]) (G 4 (mF 20 [16, 17, 18, 19])) := fun _ => by
    refine hnode _ _ _ _ [(16, [tt 17, tt 18], 1, (mF 20 [19]))] (by kernel_rfl) kz ?_
    ·
     refine cX rfl rfl rfl (.k rfl (.k rfl (.k rfl .nil))) rfl .nil (.cons (rS M0) .nil) (me_New (th := x.th) (cap := x.cap) (wd := x.wd) (ver := x.ver) (at_ := (q.step r).1.chunk) hD) (Aprt.ofPick .nil) (fun v B hR => ?_); obtain ⟨mb, vb, fb, lp, dr, rfl, rfl⟩ := hR; refine ⟨kz, ?_⟩
     refine W ?_
     exact wk (g1 mb vb fb lp dr)
   have g3 : ∀ (_ : True), At w 184 [rdE zK dv l0] (fs (F25 0) 1605631) ([puB pu Dv wp (some xb) none false (⟨x.th, x.cap, x.wd, x.ver, x.key, x.data, x.version, x.e, false⟩ : Pu), dxB xb (q.step r).1, raB ba wv (q.step r).2, raW wv n (q.step r).2]) ([]) (G 5 (mF 20 [15, 16, 17, 18, 19])) := fun _ => by
    refine hnode _ _ _ _ [(15, [], 4, (mF 20 [16, 17, 18, 19]))] (by kernel_rfl) kz ?_
    ·
     refine WD ?_
     exact wk (g2 trivial)
   have g4 : ∀ (_ : True), At w 184 [rdE zK dv l0] (fs (F25 0) 1636351) ([puB pu Dv wp (some xb) none false (⟨x.th, x.cap, x.wd, x.ver, x.key, x.data, x.version, x.e, false⟩ : Pu), dxB xb (q.step r).1, raB ba wv (q.step r).2, raW wv n (q.step r).2]) ([]) (G 5 (mF 20 [11, 16, 17, 18, 19])) := fun _ => by
    refine hnode _ _ _ _ [(11, [], 4, (mF 20 [16, 17, 18, 19]))] (by kernel_rfl) kz ?_
    ·
     refine WD ?_
     exact wk (g2 trivial)
   have g5 : ∀ (_ : True), At w 184 [rdE zK dv l0] (fs (F25 0) 1638383) ([puB pu Dv wp (some xb) none false (⟨x.th, x.cap, x.wd, x.ver, x.key, x.data, x.version, x.e, false⟩ : Pu), dxB xb (q.step r).1, raB ba wv (q.step r).2, raW wv n (q.step r).2]) ([]) (G 5 (mF 20 [4, 16, 17, 18, 19])) := fun _ => by
    refine hnode _ _ _ _ [(4, [], 4, (mF 20 [16, 17, 18, 19]))] (by kernel_rfl) kz ?_
    ·
     refine WD ?_
     exact wk (g2 trivial)
   have g6 : ∀ (_ : True), At w 184 [rdE zK dv l0] (fs (F25 0) 1603583) ([puB pu Dv wp (some xb) none false (⟨x.th, x.cap, x.wd, x.ver, x.key, x.data, x.version, x.e, false⟩ : Pu), dxB xb (q.step r).1, raB ba wv (q.step r).2, raW wv n (q.step r).2]) ([]) (G 6 (mF 20 [11, 15, 16, 17, 18, 19])) := fun _ => by
    refine hnode _ _ _ _ [(11, [], 5, (mF 20 [15, 16, 17, 18, 19])), (15, [], 5, (mF 20 [11, 16, 17, 18, 19]))] (by kernel_rfl) kz ?_
    refine ⟨?_, ?_⟩
    ·
     refine WD ?_
     exact wk (g3 trivial)
    ·
     refine WD ?_
     exact wk (g4 trivial)
   have g7 : ∀ (_ : True), At w 184 [rdE zK dv l0] (fs (F25 0) 1605615) ([puB pu Dv wp (some xb) none false (⟨x.th, x.cap, x.wd, x.ver, x.key, x.data, x.version, x.e, false⟩ : Pu), dxB xb (q.step r).1, raB ba wv (q.step r).2, raW wv n (q.step r).2]) ([]) (G 6 (mF 20 [4, 15, 16, 17, 18, 19])) := fun _ => by
    refine hnode _ _ _ _ [(4, [], 5, (mF 20 [15, 16, 17, 18, 19])), (15, [], 5, (mF 20 [4, 16, 17, 18, 19]))] (by kernel_rfl) kz ?_
    refine ⟨?_, ?_⟩
    ·
     refine WD ?_
     exact wk (g3 trivial)
    ·
     refine WD ?_
     exact wk (g5 trivial)
   have g8 : ∀ (_ : True), At w 184 [rdE zK dv l0] (fs (F25 0) 1636335) ([puB pu Dv wp (some xb) none false (⟨x.th, x.cap, x.wd, x.ver, x.key, x.data, x.version, x.e, false⟩ : Pu), dxB xb (q.step r).1, raB ba wv (q.step r).2, raW wv n (q.step r).2]) ([]) (G 6 (mF 20 [4, 11, 16, 17, 18, 19])) := fun _ => by
    refine hnode _ _ _ _ [(4, [], 5, (mF 20 [11, 16, 17, 18, 19])), (11, [], 5, (mF 20 [4, 16, 17, 18, 19]))] (by kernel_rfl) kz ?_
    refine ⟨?_, ?_⟩
    ·
     refine WD ?_
     exact wk (g4 trivial)
    ·
     refine WD ?_
     exact wk (g5 trivial)
   have g9 : ∀ (_ : True), At w 184 [rdE zK dv l0] (fs (F25 0) 1603567) ([puB pu Dv wp (some xb) none false (⟨x.th, x.cap, x.wd, x.ver, x.key, x.data, x.version, x.e, false⟩ : Pu), dxB xb (q.step r).1, raB ba wv (q.step r).2, raW wv n (q.step r).2]) ([]) (G 7 (mF 20 [4, 11, 15, 16, 17, 18, 19])) := fun _ => by
    refine hnode _ _ _ _ [(4, [], 6, (mF 20 [11, 15, 16, 17, 18, 19])), (11, [], 6, (mF 20 [4, 15, 16, 17, 18, 19])), (15, [], 6, (mF 20 [4, 11, 16, 17, 18, 19]))] (by kernel_rfl) kz ?_
    refine ⟨?_, ?_, ?_⟩
    ·
     refine WD ?_
     exact wk (g6 trivial)
    ·
     refine WD ?_
     exact wk (g7 trivial)
    ·
     refine WD ?_
     exact wk (g8 trivial)
   have g10 : ∀ (_ : True), At w 184 [rdE zK dv l0] (fs (F25 0) 1634559) ([puB pu Dv wp (some xb) none false (⟨x.th, x.cap, x.wd, x.ver, x.key, x.data, x.version, x.e, false⟩ : Pu), dxB xb (q.step r).1, raB ba wv (q.step r).2, raW wv n (q.step r).2]) ([]) (G 8 (mF 20 [8, 9, 10, 11, 16, 17, 18, 19])) := fun _ => by
    refine hnode _ _ _ _ [(8, [tt 9, tt 10], 5, (mF 20 [11, 16, 17, 18, 19]))] (by kernel_rfl) kz ?_
    ·
     refine WD ?_
     exact wk (g4 trivial)
   have g11 : ∀ (_ : True), At w 184 [rdE zK dv l0] (fs (F25 0) 1601791) ([puB pu Dv wp (some xb) none false (⟨x.th, x.cap, x.wd, x.ver, x.key, x.data, x.version, x.e, false⟩ : Pu), dxB xb (q.step r).1, raB ba wv (q.step r).2, raW wv n (q.step r).2]) ([]) (G 9 (mF 20 [8, 9, 10, 11, 15, 16, 17, 18, 19])) := fun _ => by
    refine hnode _ _ _ _ [(8, [tt 9, tt 10], 6, (mF 20 [11, 15, 16, 17, 18, 19])), (15, [], 8, (mF 20 [8, 9, 10, 11, 16, 17, 18, 19]))] (by kernel_rfl) kz ?_
    refine ⟨?_, ?_⟩
    ·
     refine WD ?_
     exact wk (g6 trivial)
    ·
     refine WD ?_
     exact wk (g10 trivial)
   have g12 : ∀ (_ : True), At w 184 [rdE zK dv l0] (fs (F25 0) 1634543) ([puB pu Dv wp (some xb) none false (⟨x.th, x.cap, x.wd, x.ver, x.key, x.data, x.version, x.e, false⟩ : Pu), dxB xb (q.step r).1, raB ba wv (q.step r).2, raW wv n (q.step r).2]) ([]) (G 9 (mF 20 [4, 8, 9, 10, 11, 16, 17, 18, 19])) := fun _ => by
    refine hnode _ _ _ _ [(4, [], 8, (mF 20 [8, 9, 10, 11, 16, 17, 18, 19])), (8, [tt 9, tt 10], 6, (mF 20 [4, 11, 16, 17, 18, 19]))] (by kernel_rfl) kz ?_
    refine ⟨?_, ?_⟩
    ·
     refine WD ?_
     exact wk (g10 trivial)
    ·
     refine WD ?_
     exact wk (g8 trivial)
   have g13 : ∀ (_ : True), At w 184 [rdE zK dv l0] (fs (F25 0) 1601775) ([puB pu Dv wp (some xb) none false (⟨x.th, x.cap, x.wd, x.ver, x.key, x.data, x.version, x.e, false⟩ : Pu), dxB xb (q.step r).1, raB ba wv (q.step r).2, raW wv n (q.step r).2]) ([]) (G 10 (mF 20 [4, 8, 9, 10, 11, 15, 16, 17, 18, 19])) := fun _ => by
    refine hnode _ _ _ _ [(4, [], 9, (mF 20 [8, 9, 10, 11, 15, 16, 17, 18, 19])), (8, [tt 9, tt 10], 7, (mF 20 [4, 11, 15, 16, 17, 18, 19])), (15, [], 9, (mF 20 [4, 8, 9, 10, 11, 16, 17, 18, 19]))] (by kernel_rfl) kz ?_
    refine ⟨?_, ?_, ?_⟩
    ·
     refine WD ?_
     exact wk (g11 trivial)
    ·
     refine WD ?_
     exact wk (g9 trivial)
    ·
     refine WD ?_
     exact wk (g12 trivial)
   refine W ?_
   exact wk (g13 trivial)
 ·
  have hz : ¬ (q.step r).1.line = 0 := (by simpa using c4)
  refine Z ?_
  refine At.st1 rfl rfl sz_4 (.t rfl) (.t rfl) rfl rfl (.n U0) ⟨.all, ?_⟩
  refine W ?_
  exact At.finalX (N' := [puB pu Dv wp (some xb) none false (⟨x.th, x.cap, x.wd, x.ver, x.key, x.data, x.version, x.e, (decide (q.i < 0) && decide (0 ≤ (q.step r).1.i))⟩ : Pu), dxB xb (q.step r).1, raB ba wv (q.step r).2, raW wv n (q.step r).2]) hds how rfl (.t rfl) (List.Sublist.refl _) (⟨_, .inl ⟨hz, rfl, rfl⟩⟩)
theorem pu_StepM {pu ba n : Nat} {dv wv Dv : Value} {l0 l : List Int} {x : Pu} {r : Rr} {k mb : Nat} {Dm Fm : Value} {y : Me} {wp xp : Option Nat} {NR : Hp} (hD : DrO dv l0 Dm l) (hy : y.ok) (hT : MeT k Fm NR) (hr : r.okk n k) (hN : n ≤ 1000000) (hk : k ≤ 800000) : FnX Tryz.prog 103 [.pointer (some ⟨pu, 0, none⟩), .pointer (some ⟨ba, 0, none⟩)] ([rdE zK dv l0]) (puB pu Dv wp xp (some mb) false x :: raB ba wv r :: raW wv n r :: meB mb Dm Fm y :: NR) (fun v N => ∃ (r2 : Rr) (y2 : Me) (D2 F2 : Value) (l2 : List Int) (NR2 : Hp), r2.okk n (k + 1) ∧ DrO dv l0 D2 l2 ∧ ((v = .bool false ∧ y2 = y ∧ MeT (k + 1) F2 NR2 ∧ N = puB pu D2 wp xp (some mb) false (⟨x.th, x.cap, x.wd, x.ver, x.key, x.data, x.version, x.e, false⟩ : Pu) :: raB ba wv r2 :: raW wv n r2 :: meB mb D2 F2 y2 :: NR2) ∨ (∃ wb ev ov, v = .bool ov ∧ N = [dwB wb (⟨x.th, (x.cap : Int), x.wd, x.ver, x.key, 1, 0, 0, 0, 0⟩ : Dw), puB pu D2 (some wb) none none ov (⟨x.th, x.cap, x.wd, x.ver, x.key, x.data, x.version, ev, false⟩ : Pu), raB ba wv r2, raW wv n r2]))) := by
 refine FnX.enter Tryz.func103 (by kernel_rfl) rfl (n := 184) rfl rfl (fun w df hds how => ?_)
 refine W ?_
 refine At.st1 rfl rfl sz_4 (.t rfl) .c rfl rfl (.n U0) ⟨.all, ?_⟩
 refine W ?_
 refine eA rfl (R.neqNilP Tryz.underlying143 (.t rfl)) ?_
 refine W ?_
 refine cX rfl rfl rfl (.k rfl (.k rfl .nil)) rfl (.skip .all) (.cons (rS M0) .nil) (me_Step (wv := wv) (ba := ba) hD hy hT hr hN hk) (Aprt.ofPick (.skip .all)) (fun v B hR => ⟨.all, ?_⟩); obtain ⟨e, r2, y2, D2, F2, l2, NR2, rfl, rfl, hr2, hD2, he0, he1⟩ := hR; refine At.perm List.perm_append_comm ?_; refine At.re (N' := puB pu Dv wp xp (some mb) false (⟨x.th, x.cap, x.wd, x.ver, x.key, x.data, x.version, x.e, false⟩ : Pu) :: raB ba wv r2 :: raW wv n r2 :: meB mb D2 F2 y2 :: NR2) rfl ?_; refine At.sliceForm (drS hD2) (fun sA2 scap2 hsv2 _ _ => ?_); subst hsv2
 refine W ?_
 refine At.st1 rfl rfl sz_25 (.t rfl) (.t rfl) rfl rfl (.n U0) ⟨.all, ?_⟩
 refine W ?_
 refine At.cond (.t rfl) (fun c3 => ?_) (fun c3 => ?_)
 ·
  obtain rfl := he1 c3
  refine W ?_
  let F14 : Fr := [(37, pt pu 0), (38, pt pu 0), (39, pt pu 0), (40, pt pu 0), (41, pt pu 9), (42, pt mb 0), (43, pt mb 0), (44, pt mb 6), (45, iv y2.e), (46, pt pu 0), (47, pt pu 0), (48, pt pu 9), (49, pt mb 0), (50, pt mb 0), (51, pt mb 6), (52, iv y2.e), (53, bv (!decide (y2.e = 0))), (54, pt pu 0), (55, pt pu 12), (56, pt pu 0), (57, pt pu 10), (0, pt pu 0)]
  refine At.dag [tt 0, tt 1, tt 2, tt 3, tt 4, tt 9, tt 10, tt 11] 15 (mT 23 [0, 1, 2, 3, 4, 9, 10, 11]) ([rdE zK dv l0]) (keepOf sl) (by kernel_rfl) (by kernel_rfl) (fun G hnode hdone => ?_)
  have g0 : ∀ (_ : True), At w 184 [rdE zK dv l0] (fs F14 4194303) ([puB pu (.slice sA2 l2.length scap2) wp xp (some mb) (!decide (y2.e = 0)) (⟨x.th, x.cap, x.wd, x.ver, x.key, x.data, x.version, (y2.e), false⟩ : Pu), raB ba wv r2, raW wv n r2, meB mb (.slice sA2 l2.length scap2) F2 y2]) ([]) (G 0 (mF 23 [])) := fun _ => by
   refine hdone _ _ _ (by kernel_rfl) ?_
   refine W ?_
   let F19 : Nat → Fr := fun wb => [(58, pt pu 0), (59, pt pu 0), (60, pt pu 0), (61, pt pu 0), (62, pt pu 0), (63, pt pu 0), (64, true, .agg #[.int .i64 x.th, .int .i64 (x.cap : Int), .int .i64 x.wd, .int .i64 x.ver]), (65, pt pu 0), (66, pt pu 0), (67, pt pu 4), (68, iv x.key), (69, pt wb 0), (70, pt pu 0), (71, pt pu 9), (72, pt pu 0), (73, pt pu 8), (74, pt pu 0), (75, pt pu 7), (0, pt pu 0)]
   refine At.dag [tt 0, tt 1, tt 2, tt 3, tt 4, tt 5, tt 7, tt 8, tt 9] 12 (mT 21 [0, 1, 2, 3, 4, 5, 7, 8, 9]) ([rdE zK dv l0]) (keepOf sl) (by kernel_rfl) (by kernel_rfl) (fun G hnode hdone => ?_)
   have g0 : ∀ (wb : Nat), At w 184 [rdE zK dv l0] (fs (F19 wb) 524287) ([dwB wb (⟨x.th, (x.cap : Int), x.wd, x.ver, x.key, 1, 0, 0, 0, 0⟩ : Dw), puB pu (.slice sA2 l2.length scap2) (some wb) none none (!decide (y2.e = 0)) (⟨x.th, x.cap, x.wd, x.ver, x.key, x.data, x.version, (y2.e), false⟩ : Pu), raB ba wv r2, raW wv n r2]) ([]) (G 0 (mF 21 [])) := fun wb => by
    refine hdone _ _ _ (by kernel_rfl) ?_
    refine W ?_
    exact At.finalX (N' := [dwB wb (⟨x.th, (x.cap : Int), x.wd, x.ver, x.key, 1, 0, 0, 0, 0⟩ : Dw), puB pu _ (some wb) none none _ (⟨x.th, x.cap, x.wd, x.ver, x.key, x.data, x.version, _, false⟩ : Pu), raB ba wv r2, raW wv n r2]) hds how rfl (.t rfl) (List.Sublist.refl _) (⟨r2, y2, _, F2, l2, [], hr2, hD2, .inr ⟨wb, _, _, rfl, rfl⟩⟩)
   have g1 : ∀ (wb : Nat), At w 184 [rdE zK dv l0] (fs (F19 wb) 524287) ([dwB wb (⟨x.th, (x.cap : Int), x.wd, x.ver, x.key, 1, 0, 0, 0, 0⟩ : Dw), puB pu (.slice sA2 l2.length scap2) wp none none (!decide (y2.e = 0)) (⟨x.th, x.cap, x.wd, x.ver, x.key, x.data, x.version, (y2.e), false⟩ : Pu), raB ba wv r2, raW wv n r2]) ([]) (G 1 (mF 21 [20])) := fun wb => by
    refine hnode _ _ _ _ [(20, [], 0, (mF 21 []))] (by kernel_rfl) kz ?_
    ·
     refine At.st1 rfl rfl sz_141 (.t rfl) (.t rfl) rfl rfl (.n U1) ⟨kz, ?_⟩
     refine W ?_
     exact wk (g0 wb)
   have g2 : ∀ (wb : Nat), At w 184 [rdE zK dv l0] (fs (F19 wb) 327679) ([dwB wb (⟨x.th, (x.cap : Int), x.wd, x.ver, x.key, 1, 0, 0, 0, 0⟩ : Dw), puB pu (.slice sA2 l2.length scap2) wp xp none (!decide (y2.e = 0)) (⟨x.th, x.cap, x.wd, x.ver, x.key, x.data, x.version, (y2.e), false⟩ : Pu), raB ba wv r2, raW wv n r2]) ([]) (G 4 (mF 21 [17, 18, 19, 20])) := fun wb => by
    refine hnode _ _ _ _ [(17, [tt 18, tt 19], 1, (mF 21 [20]))] (by kernel_rfl) kz ?_
    ·
     refine At.st1 rfl rfl sz_142 (.t rfl) .c rfl rfl (.n U1) ⟨kz, ?_⟩
     refine W ?_
     exact wk (g1 wb)
   have g3 : ∀ (wb : Nat), At w 184 [rdE zK dv l0] (fs (F19 wb) 278527) ([dwB wb (⟨x.th, (x.cap : Int), x.wd, x.ver, x.key, 1, 0, 0, 0, 0⟩ : Dw), puB pu (.slice sA2 l2.length scap2) wp xp (some mb) (!decide (y2.e = 0)) (⟨x.th, x.cap, x.wd, x.ver, x.key, x.data, x.version, (y2.e), false⟩ : Pu), raB ba wv r2, raW wv n r2]) ([]) (G 7 (mF 21 [14, 15, 16, 17, 18, 19, 20])) := fun wb => by
    refine hnode _ _ _ _ [(14, [tt 15, tt 16], 4, (mF 21 [17, 18, 19, 20]))] (by kernel_rfl) kz ?_
    ·
     refine At.st1 rfl rfl sz_143 (.t rfl) .c rfl rfl (.n U1) ⟨kz, ?_⟩
     refine W ?_
     exact wk (g2 wb)
   have g4 : ∀ (_ : True), At w 184 [rdE zK dv l0] (fs (F19 0) 264191) ([puB pu (.slice sA2 l2.length scap2) wp xp (some mb) (!decide (y2.e = 0)) (⟨x.th, x.cap, x.wd, x.ver, x.key, x.data, x.version, (y2.e), false⟩ : Pu), raB ba wv r2, raW wv n r2]) ([]) (G 10 (mF 21 [11, 12, 13, 14, 15, 16, 17, 18, 19, 20])) := fun _ => by
    refine hnode _ _ _ _ [(11, [tt 12, tt 13], 7, (mF 21 [14, 15, 16, 17, 18, 19, 20]))] (by kernel_rfl) kz ?_
    ·
     refine cP rfl rfl rfl (.k rfl (.k rfl .nil)) rfl (dw_New (a := x.th) (b := (x.cap : Int)) (c := x.wd) (d := x.ver) (key := x.key)) (fun _ h => nomatch h) (fun v N1 H1 hR => ?_); obtain ⟨wb, rfl, rfl, rfl⟩ := hR; refine ⟨rfl, kz, ?_⟩
     refine W ?_
     exact wk (g3 wb)
   have g5 : ∀ (_ : True), At w 184 [rdE zK dv l0] (fs (F19 0) 263167) ([puB pu (.slice sA2 l2.length scap2) wp xp (some mb) (!decide (y2.e = 0)) (⟨x.th, x.cap, x.wd, x.ver, x.key, x.data, x.version, (y2.e), false⟩ : Pu), raB ba wv r2, raW wv n r2]) ([]) (G 11 (mT 21 [0, 1, 2, 3, 4, 5, 6, 7, 8, 9])) := fun _ => by
    refine hnode _ _ _ _ [(10, [], 10, (mF 21 [11, 12, 13, 14, 15, 16, 17, 18, 19, 20]))] (by kernel_rfl) kz ?_
    ·
     refine WD ?_
     exact wk (g4 trivial)
   have g6 : ∀ (_ : True), At w 184 [rdE zK dv l0] (fs (F19 0) 264127) ([puB pu (.slice sA2 l2.length scap2) wp xp (some mb) (!decide (y2.e = 0)) (⟨x.th, x.cap, x.wd, x.ver, x.key, x.data, x.version, (y2.e), false⟩ : Pu), raB ba wv r2, raW wv n r2]) ([]) (G 11 (mT 21 [0, 1, 2, 3, 4, 5, 7, 8, 9, 10])) := fun _ => by
    refine hnode _ _ _ _ [(6, [], 10, (mF 21 [11, 12, 13, 14, 15, 16, 17, 18, 19, 20]))] (by kernel_rfl) kz ?_
    ·
     refine WD ?_
     exact wk (g4 trivial)
   have g7 : ∀ (_ : True), At w 184 [rdE zK dv l0] (fs (F19 0) 263103) ([puB pu (.slice sA2 l2.length scap2) wp xp (some mb) (!decide (y2.e = 0)) (⟨x.th, x.cap, x.wd, x.ver, x.key, x.data, x.version, (y2.e), false⟩ : Pu), raB ba wv r2, raW wv n r2]) ([]) (G 12 (mT 21 [0, 1, 2, 3, 4, 5, 7, 8, 9])) := fun _ => by
    refine hnode _ _ _ _ [(6, [], 11, (mT 21 [0, 1, 2, 3, 4, 5, 6, 7, 8, 9])), (10, [], 11, (mT 21 [0, 1, 2, 3, 4, 5, 7, 8, 9, 10]))] (by kernel_rfl) kz ?_
    refine ⟨?_, ?_⟩
    ·
     refine WD ?_
     exact wk (g5 trivial)
    ·
     refine WD ?_
     exact wk (g6 trivial)
   refine W ?_
   exact wk (g7 trivial)
  have g1 : ∀ (_ : True), At w 184 [rdE zK dv l0] (fs F14 4194303) ([puB pu (.slice sA2 l2.length scap2) wp xp (some mb) false (⟨x.th, x.cap, x.wd, x.ver, x.key, x.data, x.version, (y2.e), false⟩ : Pu), raB ba wv r2, raW wv n r2, meB mb (.slice sA2 l2.length scap2) F2 y2]) ([]) (G 1 (mF 23 [22])) := fun _ => by
   refine hnode _ _ _ _ [(22, [], 0, (mF 23 []))] (by kernel_rfl) kz ?_
   ·
    refine At.st1 rfl rfl sz_4 (.t rfl) (.t rfl) rfl rfl (.n U0) ⟨kz, ?_⟩
    refine W ?_
    exact wk (g0 trivial)
  have g2 : ∀ (_ : True), At w 184 [rdE zK dv l0] (fs F14 2621439) ([puB pu (.slice sA2 l2.length scap2) wp xp (some mb) false (⟨x.th, x.cap, x.wd, x.ver, x.key, x.data, x.version, x.e, false⟩ : Pu), raB ba wv r2, raW wv n r2, meB mb (.slice sA2 l2.length scap2) F2 y2]) ([]) (G 4 (mF 23 [19, 20, 21, 22])) := fun _ => by
   refine hnode _ _ _ _ [(19, [tt 20, tt 21], 1, (mF 23 [22]))] (by kernel_rfl) kz ?_
   ·
    refine At.st1 rfl rfl sz_3 (.t rfl) (.t rfl) rfl rfl (.n U0) ⟨kz, ?_⟩
    refine W ?_
    exact wk (g1 trivial)
  have g3 : ∀ (_ : True), At w 184 [rdE zK dv l0] (fs F14 2227967) ([puB pu (.slice sA2 l2.length scap2) wp xp (some mb) false (⟨x.th, x.cap, x.wd, x.ver, x.key, x.data, x.version, x.e, false⟩ : Pu), raB ba wv r2, raW wv n r2, meB mb (.slice sA2 l2.length scap2) F2 y2]) ([]) (G 7 (mF 23 [8, 17, 18, 19, 20, 21, 22])) := fun _ => by
   refine hnode _ _ _ _ [(8, [tt 17, tt 18], 4, (mF 23 [19, 20, 21, 22]))] (by kernel_rfl) kz ?_
   ·
    refine WD ?_
    exact wk (g2 trivial)
  have g4 : ∀ (_ : True), At w 184 [rdE zK dv l0] (fs F14 2129919) ([puB pu (.slice sA2 l2.length scap2) wp xp (some mb) false (⟨x.th, x.cap, x.wd, x.ver, x.key, x.data, x.version, x.e, false⟩ : Pu), raB ba wv r2, raW wv n r2, meB mb (.slice sA2 l2.length scap2) F2 y2]) ([]) (G 8 (mF 23 [15, 16, 17, 18, 19, 20, 21, 22])) := fun _ => by
   refine hnode _ _ _ _ [(15, [tt 16, tt 17, tt 18], 4, (mF 23 [19, 20, 21, 22]))] (by kernel_rfl) kz ?_
   ·
    refine ZD ?_
    exact wk (g2 trivial)
  have g5 : ∀ (_ : True), At w 184 [rdE zK dv l0] (fs F14 2129663) ([puB pu (.slice sA2 l2.length scap2) wp xp (some mb) false (⟨x.th, x.cap, x.wd, x.ver, x.key, x.data, x.version, x.e, false⟩ : Pu), raB ba wv r2, raW wv n r2, meB mb (.slice sA2 l2.length scap2) F2 y2]) ([]) (G 9 (mF 23 [8, 15, 16, 17, 18, 19, 20, 21, 22])) := fun _ => by
   refine hnode _ _ _ _ [(8, [], 8, (mF 23 [15, 16, 17, 18, 19, 20, 21, 22])), (15, [tt 16], 7, (mF 23 [8, 17, 18, 19, 20, 21, 22]))] (by kernel_rfl) kz ?_
   refine ⟨?_, ?_⟩
   ·
    refine WD ?_
    exact wk (g4 trivial)
   ·
    refine ZD ?_
    exact wk (g3 trivial)
  have g6 : ∀ (_ : True), At w 184 [rdE zK dv l0] (fs F14 2227743) ([puB pu (.slice sA2 l2.length scap2) wp xp (some mb) false (⟨x.th, x.cap, x.wd, x.ver, x.key, x.data, x.version, x.e, false⟩ : Pu), raB ba wv r2, raW wv n r2, meB mb (.slice sA2 l2.length scap2) F2 y2]) ([]) (G 10 (mF 23 [5, 6, 7, 8, 17, 18, 19, 20, 21, 22])) := fun _ => by
   refine hnode _ _ _ _ [(5, [tt 6, tt 7], 7, (mF 23 [8, 17, 18, 19, 20, 21, 22]))] (by kernel_rfl) kz ?_
   ·
    refine WD ?_
    exact wk (g3 trivial)
  have g7 : ∀ (_ : True), At w 184 [rdE zK dv l0] (fs F14 2101247) ([puB pu (.slice sA2 l2.length scap2) wp xp (some mb) false (⟨x.th, x.cap, x.wd, x.ver, x.key, x.data, x.version, x.e, false⟩ : Pu), raB ba wv r2, raW wv n r2, meB mb (.slice sA2 l2.length scap2) F2 y2]) ([]) (G 11 (mF 23 [12, 13, 14, 15, 16, 17, 18, 19, 20, 21, 22])) := fun _ => by
   refine hnode _ _ _ _ [(12, [tt 13, tt 14], 8, (mF 23 [15, 16, 17, 18, 19, 20, 21, 22]))] (by kernel_rfl) kz ?_
   ·
    refine WD ?_
    exact wk (g4 trivial)
  have g8 : ∀ (_ : True), At w 184 [rdE zK dv l0] (fs F14 2100991) ([puB pu (.slice sA2 l2.length scap2) wp xp (some mb) false (⟨x.th, x.cap, x.wd, x.ver, x.key, x.data, x.version, x.e, false⟩ : Pu), raB ba wv r2, raW wv n r2, meB mb (.slice sA2 l2.length scap2) F2 y2]) ([]) (G 12 (mT 23 [0, 1, 2, 3, 4, 5, 6, 7, 9, 10, 11])) := fun _ => by
   refine hnode _ _ _ _ [(8, [], 11, (mF 23 [12, 13, 14, 15, 16, 17, 18, 19, 20, 21, 22])), (12, [tt 13, tt 14], 9, (mF 23 [8, 15, 16, 17, 18, 19, 20, 21, 22]))] (by kernel_rfl) kz ?_
   refine ⟨?_, ?_⟩
   ·
    refine WD ?_
    exact wk (g7 trivial)
   ·
    refine WD ?_
    exact wk (g5 trivial)
  have g9 : ∀ (_ : True), At w 184 [rdE zK dv l0] (fs F14 2129439) ([puB pu (.slice sA2 l2.length scap2) wp xp (some mb) false (⟨x.th, x.cap, x.wd, x.ver, x.key, x.data, x.version, x.e, false⟩ : Pu), raB ba wv r2, raW wv n r2, meB mb (.slice sA2 l2.length scap2) F2 y2]) ([]) (G 12 (mT 23 [0, 1, 2, 3, 4, 9, 10, 11, 12, 13, 14])) := fun _ => by
   refine hnode _ _ _ _ [(5, [tt 6, tt 7], 9, (mF 23 [8, 15, 16, 17, 18, 19, 20, 21, 22])), (15, [tt 16], 10, (mF 23 [5, 6, 7, 8, 17, 18, 19, 20, 21, 22]))] (by kernel_rfl) kz ?_
   refine ⟨?_, ?_⟩
   ·
    refine WD ?_
    exact wk (g5 trivial)
   ·
    refine ZD ?_
    exact wk (g6 trivial)
  have g10 : ∀ (_ : True), At w 184 [rdE zK dv l0] (fs F14 2100767) ([puB pu (.slice sA2 l2.length scap2) wp xp (some mb) false (⟨x.th, x.cap, x.wd, x.ver, x.key, x.data, x.version, x.e, false⟩ : Pu), raB ba wv r2, raW wv n r2, meB mb (.slice sA2 l2.length scap2) F2 y2]) ([]) (G 15 (mT 23 [0, 1, 2, 3, 4, 9, 10, 11])) := fun _ => by
   refine hnode _ _ _ _ [(5, [tt 6, tt 7], 12, (mT 23 [0, 1, 2, 3, 4, 5, 6, 7, 9, 10, 11])), (12, [tt 13, tt 14], 12, (mT 23 [0, 1, 2, 3, 4, 9, 10, 11, 12, 13, 14]))] (by kernel_rfl) kz ?_
   refine ⟨?_, ?_⟩
   ·
    refine WD ?_
    exact wk (g8 trivial)
   ·
    refine WD ?_
    exact wk (g9 trivial)
  refine W ?_
  exact wk (g10 trivial)
 ·
  refine W ?_
  exact At.finalX (N' := puB pu (.slice sA2 l2.length scap2) wp xp (some mb) false (⟨x.th, x.cap, x.wd, x.ver, x.key, x.data, x.version, x.e, false⟩ : Pu) :: raB ba wv r2 :: raW wv n r2 :: meB mb (.slice sA2 l2.length scap2) F2 y2 :: NR2) hds how rfl (.t rfl) (List.Sublist.refl _) (⟨r2, y2, _, F2, l2, NR2, hr2, hD2, .inl ⟨rfl, (he0 c3).1, (he0 c3).2, rfl⟩⟩)
end Go.Proofs.YtbolanigdkgbdaaGreat
