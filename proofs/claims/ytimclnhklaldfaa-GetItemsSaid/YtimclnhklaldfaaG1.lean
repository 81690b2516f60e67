/- G1 -/
import Derived.Test.YtimclnhklaldfaaGL
import Derived.Test.YtimclnhklaldfaaK3
namespace Go.Proofs.Ytimclnhklaldfaa
open Go Go.RowKit
set_option maxRecDepth 10000
set_option linter.unusedVariables false
set_option maxHeartbeats 1000000
theorem bt_93 : buildTab Try.prog 93 = some (#[.int .i64 0, .int .i64 0, .int .i64 0, .int .i64 0, .int .i64 0, .pointer none, .pointer none, .bool false], [(0, 4), (4, 1), (5, 1), (6, 1), (7, 1)]) := by kernel_rfl
theorem fo_50_0 : fieldOff? Try.prog 50 0 = some 0 := by kernel_rfl
theorem fo_50_3 : fieldOff? Try.prog 50 3 = some 3 := by kernel_rfl
theorem fo_50_4 : fieldOff? Try.prog 50 4 = some 4 := by kernel_rfl
theorem fo_50_5 : fieldOff? Try.prog 50 5 = some 5 := by kernel_rfl
theorem fo_93_0 : fieldOff? Try.prog 93 0 = some 0 := by kernel_rfl
theorem fo_93_1 : fieldOff? Try.prog 93 1 = some 4 := by kernel_rfl
theorem fo_93_2 : fieldOff? Try.prog 93 2 = some 5 := by kernel_rfl
theorem fo_93_3 : fieldOff? Try.prog 93 3 = some 6 := by kernel_rfl
theorem fo_93_4 : fieldOff? Try.prog 93 4 = some 7 := by kernel_rfl
theorem sz_37 : (Try.prog.info? 37).map (·.size) = some 1 := by kernel_rfl


abbrev gtC (a b c d key : Int) (bw : Nat) (lp : Option Nat) (over : Bool) : Array Value := #[.int .i64 a, .int .i64 b, .int .i64 c, .int .i64 d, .int .i64 key, .pointer (some ⟨bw, 0, none⟩), .pointer (match lp with | none => none | some bl => some ⟨bl, 0, none⟩), .bool over]
abbrev gtB (bg : Nat) (a b c d key : Int) (bw : Nat) (lp : Option Nat) (over : Bool) : Ent := .blk bg (.cells (gtC a b c d key bw lp over) 93)
def Wk.go (x : Wk) (a : Ar) : Wk := if x.line = 1 then (x.do1 a).withLine (x.out1 a) else if x.line = 2 then (x.do2 a).withLine (x.out2 a) else if x.line = 3 then (x.do3 a).withLine (x.out3 a) else if x.line = 4 then (x.do4 a).withLine (x.out4 a) else if x.line = 5 then (x.do5 a).withLine (x.out5 a) else x
def Wk.acc (x : Wk) (a : Ar) : Ar := if x.line = 1 then a.load (3 + x.th + x.key / 16) else if x.line = 2 then a.load (x.hint + 6) else if x.line = 3 then a.load x.hint else if x.line = 4 then a.load (x.cur + 2) else if x.line = 5 then a.load x.n else a
theorem v_Step {b ba n : Nat} {wv : Value} {x : Wk} {a : Ar} (hx : x.ok) (hl : 0 ≤ x.line ∧ x.line ≤ 5) (hn : a.w.length = n) (hN : n ≤ 1000000) (hf : a.few) (hw : a.mid) : Fn Try.prog 54 [.pointer (some ⟨b, 0, none⟩), .pointer (some ⟨ba, 0, none⟩)] [] [wkB b x, arB ba wv a, arW wv n a] (IsM (.bool (decide ((x.go a).line = 0))) [wkB b (x.go a), arB ba wv (x.acc a), arW wv n (x.acc a)]) := by
  unfold Wk.go Wk.acc
  rcases (by omega : x.line = 0 ∨ x.line = 1 ∨ x.line = 2 ∨ x.line = 3 ∨ x.line = 4 ∨ x.line = 5) with h | h | h | h | h | h
  · have := v_Step0 (b := b) (ba := ba) (wv := wv) hx hn hN hf hw h
    simpa [h] using this
  · have := v_Step1 (b := b) (ba := ba) (wv := wv) hx hn hN hf hw h
    simpa [h] using this
  · have := v_Step2 (b := b) (ba := ba) (wv := wv) hx hn hN hf hw h
    simpa [h] using this
  · have := v_Step3 (b := b) (ba := ba) (wv := wv) hx hn hN hf hw h
    simpa [h] using this
  · have := v_Step4 (b := b) (ba := ba) (wv := wv) hx hn hN hf hw h
    simpa [h] using this
  · have := v_Step5 (b := b) (ba := ba) (wv := wv) hx hn hN hf hw h
    simpa [h] using this
theorem items_len {ml : List (Int × Itm)} {zs : List Itm} (h : ∃ ys : List Int, ys.Perm (ml.map (·.1)) ∧ ys.Pairwise (· ≤ ·) ∧ zs = ys.map fun k => (aget ml k).getD default) (hN : ml.length ≤ 1000) : zs.length ≤ 1000000 := by
  obtain ⟨ys, h1, _, rfl⟩ := h
  rw [List.length_map, h1.length_eq, List.length_map]; omega
theorem items_data {ml : List (Int × Itm)} {zs : List Itm} (h : ∃ ys : List Int, ys.Perm (ml.map (·.1)) ∧ ys.Pairwise (· ≤ ·) ∧ zs = ys.map fun k => (aget ml k).getD default) (hd : ∀ e ∈ ml, 0 ≤ e.2.data ∧ e.2.data ≤ 9223372036854775807) : ∀ x ∈ zs, 0 ≤ x.data ∧ x.data ≤ 9223372036854775807 := by
  obtain ⟨ys, h1, _, rfl⟩ := h
  intro x hx
  obtain ⟨k, hk, rfl⟩ := List.mem_map.1 hx
  obtain ⟨v, e1, e2⟩ := aget_mem (h1.mem_iff.1 hk)
  rw [e1]; exact hd _ e2
theorem keysLk {bl bm b n : Nat} {wv : Value} {k k' l l' : Lk} {x y x' y' : Ar} : keys [lkB bl bm k, lkM bm l, arB b wv x, arW wv n y] = keys [lkB bl bm k', lkM bm l', arB b wv x', arW wv n y'] := rfl
theorem g_New {a b c d key : Int} : Fn Try.prog 37 [.agg #[.int .i64 a, .int .i64 b, .int .i64 c, .int .i64 d], .int .i64 key] ([]) ([]) (fun v N H => ∃ bg bw, v = .pointer (some ⟨bg, 0, none⟩) ∧ N = [gtB bg a b c d key bw none false, wkB bw (⟨a, b, c, d, key, 1, 0, 0, 0, 0⟩ : Wk)] ∧ H = []) := by
  refine Fn.enter Try.func37 (by kernel_rfl) rfl (n := 12) rfl rfl (fun w => ?_)
  refine At.seq ?_
  refine At.plain [(false, 0), (false, 1)] rfl ?_
  refine At.box rfl rfl rfl (.t rfl) (fun b1 hb1 => ⟨.all, ?_⟩)
  refine At.e rfl rfl rfl rfl .all (R.assign .c) ?_
  refine At.nil ?_
  refine At.tN ?_
  refine At.seq ?_
  refine At.drawK [(true, 0), (true, 1), (true, 2), (true, 3), (false, 4), (true, 5), (false, 6), (true, 7)] (by kernel_rfl) (by kernel_rfl) ?_
  refine At.s rfl rfl rfl rfl (Cl.kept fun _ h => h) (R.loadAgg (vs := [_, _, _, _]) Try.underlying26 rfl sz_26 (.t rfl) (by exact csK M0 ⟨rfl, rfl, rfl, rfl, trivial⟩)) ?_
  refine At.s rfl rfl rfl rfl (Cl.kept fun _ h => h) (R.move (.t rfl)) ?_
  refine At.s rfl rfl rfl rfl (Cl.kept fun _ h => h) (R.loadAgg (vs := [_, _, _, _]) Try.underlying26 rfl sz_26 (.t rfl) (by exact csK M0 ⟨rfl, rfl, rfl, rfl, trivial⟩)) ?_
  refine At.s rfl rfl rfl rfl (Cl.kept fun _ h => h) (R.move (.t rfl)) ?_
  refine At.callP (fst := []) (cap := []) rfl rfl rfl Ev.f (.cons (.t rfl) (.cons (.t rfl) .nil)) rfl (v_New (a := a) (b := b) (c := c) (d := d) (key := key)) (fun _ h => nomatch h) (fun v N1 H1 hR => ?_); obtain ⟨bw, rfl, rfl, rfl⟩ := hR; refine ⟨rfl, (Cl.kept (by (exact keepOf (by (apply List.Sublist.cons; exact List.Sublist.refl _))))), ?_⟩
  refine At.s rfl rfl rfl rfl (Cl.kept (by (exact keepOf (by (apply List.Sublist.cons; exact List.Sublist.refl _))))) (R.build bt_93 (.cons (.t rfl) (.cons (.t rfl) (.cons (.t rfl) .nil))) (.cons rfl (.cons rfl (.cons rfl .nil))) rfl) ?_
  refine At.box rfl rfl rfl (.t rfl) (fun b2 hb2 => ⟨(Cl.kept (by (exact keepOf (by (apply List.Sublist.cons; apply List.Sublist.cons; exact List.Sublist.refl _))))), ?_⟩)
  refine At.s rfl rfl rfl rfl (Cl.kept (by (exact keepOf (by (apply List.Sublist.cons; apply List.Sublist.cons; exact List.Sublist.refl _))))) (R.assign (.t rfl)) ?_
  refine At.nil ?_
  refine At.tN ?_
  refine At.ret ?_
  exact At.final (N' := [gtB b2 a b c d key bw none false, wkB bw (⟨a, b, c, d, key, 1, 0, 0, 0, 0⟩ : Wk)]) rfl (.t rfl) (by (apply List.Sublist.cons_cons; apply List.Sublist.cons_cons; exact List.nil_sublist _)) (⟨b2, bw, rfl, rfl, rfl⟩)

theorem g_StepW {bg bw ba n : Nat} {wv : Value} {a b c d key : Int} {x : Wk} {A : Ar} (hx : x.ok) (hl : 0 ≤ x.line ∧ x.line ≤ 5) (hn : A.w.length = n) (hN : n ≤ 1000000) (hf : A.few) (hw : A.mid) (hg : ¬ (x.go A).line = 0) : Fn Try.prog 38 [.pointer (some ⟨bg, 0, none⟩), .pointer (some ⟨ba, 0, none⟩)] ([]) ([gtB bg a b c d key bw none false, wkB bw x, arB ba wv A, arW wv n A]) (IsM (.bool false) [gtB bg a b c d key bw none false, wkB bw (x.go A), arB ba wv (x.acc A), arW wv n (x.acc A)]) := by
  refine Fn.enter Try.func38 (by kernel_rfl) rfl (n := 57) rfl rfl (fun w => ?_)
  refine At.seq ?_
  refine At.plain [(false, 0)] rfl ?_
  refine At.e rfl rfl rfl rfl .all (R.assign .c) ?_
  refine At.nil ?_
  refine At.tN ?_
  refine At.seq ?_
  refine At.block ?_
  refine At.seq ?_
  refine At.plain [(false, 0), (false, 1), (false, 2), (false, 3), (false, 4)] rfl ?_
  refine At.e rfl rfl rfl rfl .all (R.move (.t rfl)) ?_
  refine At.e rfl rfl rfl rfl .all (R.nilCheckP (.t rfl)) ?_
  refine At.e rfl rfl rfl rfl .all (R.fieldAddr fo_93_4 (.t rfl)) ?_
  refine At.e rfl rfl rfl rfl .all (R.load Try.underlying4 rfl (.t rfl) (by exact cS M0 rfl)) ?_
  refine At.e rfl rfl rfl rfl .all (R.assign (.t rfl)) ?_
  refine At.nil ?_
  refine At.tN ?_
  refine At.condF (.t rfl) ?_
  refine At.seq ?_
  refine At.plain [(false, 0), (false, 1), (false, 2), (false, 3), (false, 4), (false, 5)] rfl ?_
  refine At.e rfl rfl rfl rfl .all (R.move (.t rfl)) ?_
  refine At.e rfl rfl rfl rfl .all (R.nilCheckP (.t rfl)) ?_
  refine At.e rfl rfl rfl rfl .all (R.fieldAddr fo_93_3 (.t rfl)) ?_
  refine At.e rfl rfl rfl rfl .all (R.load Try.underlying37 rfl (.t rfl) (by exact cS M0 rfl)) ?_
  refine At.e rfl rfl rfl rfl .all (R.neqNilP Try.underlying37 (.t rfl)) ?_
  refine At.e rfl rfl rfl rfl .all (R.assign (.t rfl)) ?_
  refine At.nil ?_
  refine At.tN ?_
  refine At.condF (.t rfl) ?_
  refine At.seq ?_
  refine At.plain [(false, 0), (false, 1), (false, 2), (false, 3), (false, 4), (false, 5), (false, 6)] rfl ?_
  refine At.e rfl rfl rfl rfl .all (R.move (.t rfl)) ?_
  refine At.e rfl rfl rfl rfl .all (R.nilCheckP (.t rfl)) ?_
  refine At.e rfl rfl rfl rfl .all (R.fieldAddr fo_93_2 (.t rfl)) ?_
  refine At.e rfl rfl rfl rfl .all (R.load Try.underlying90 rfl (.t rfl) (by exact cS M0 rfl)) ?_
  refine At.e rfl rfl rfl rfl .all (R.move (.t rfl)) ?_
  refine At.callM (fst := []) (cap := []) rfl rfl rfl Ev.f (.cons (.t rfl) (.cons (.t rfl) .nil)) rfl (.h (.skip (.take (.take (.take .nil))))) .nil (v_Step (x := x) (a := A) hx hl hn hN hf hw) keysWk .nil ⟨.all, ?_⟩
  refine At.e rfl rfl rfl rfl .all (R.assign (.t rfl)) ?_
  refine At.nil ?_
  refine At.tN ?_
  refine At.condD (.t rfl) (fun c3 => ?_) (fun c3 => ?_)
  · exact absurd (by simpa using c3) hg
  · skip
    refine At.skip ?_
    refine At.bN ?_
    refine At.tN ?_
    refine At.seq ?_
    refine At.plain [(false, 0), (false, 1), (false, 2), (false, 3), (false, 4)] rfl ?_
    refine At.e rfl rfl rfl rfl .all (R.move (.t rfl)) ?_
    refine At.e rfl rfl rfl rfl .all (R.nilCheckP (.t rfl)) ?_
    refine At.e rfl rfl rfl rfl .all (R.fieldAddr fo_93_4 (.t rfl)) ?_
    refine At.e rfl rfl rfl rfl .all (R.load Try.underlying4 rfl (.t rfl) (by exact cS M0 rfl)) ?_
    refine At.e rfl rfl rfl rfl .all (R.assign (.t rfl)) ?_
    refine At.nil ?_
    refine At.tN ?_
    refine At.ret ?_
    exact At.final rfl (.t rfl) (List.nil_sublist _) (⟨rfl, rfl, rfl⟩)

theorem g_StepE {bg bw ba n : Nat} {wv : Value} {a b c d key : Int} {x : Wk} {A : Ar} (hx : x.ok) (hl : 0 ≤ x.line ∧ x.line ≤ 5) (hn : A.w.length = n) (hN : n ≤ 1000000) (hf : A.few) (hw : A.mid) (hg : (x.go A).line = 0) : Fn Try.prog 38 [.pointer (some ⟨bg, 0, none⟩), .pointer (some ⟨ba, 0, none⟩)] ([]) ([gtB bg a b c d key bw none false, wkB bw x, arB ba wv A, arW wv n A]) (fun v N H => ∃ bl bm, v = .bool false ∧ N = [lkB bl bm (⟨a, b, c, d, (x.go A).chunk, key, key, 1073741824, 1, 0, -1, 0, 0, 0, []⟩ : Lk), lkM bm (⟨a, b, c, d, (x.go A).chunk, key, key, 1073741824, 1, 0, -1, 0, 0, 0, []⟩ : Lk)] ∧ H = [gtB bg a b c d key bw (some bl) false, wkB bw (x.go A), arB ba wv (x.acc A), arW wv n (x.acc A)]) := by
  refine Fn.enter Try.func38 (by kernel_rfl) rfl (n := 57) rfl rfl (fun w => ?_)
  refine At.seq ?_
  refine At.plain [(false, 0)] rfl ?_
  refine At.e rfl rfl rfl rfl .all (R.assign .c) ?_
  refine At.nil ?_
  refine At.tN ?_
  refine At.seq ?_
  refine At.block ?_
  refine At.seq ?_
  refine At.plain [(false, 0), (false, 1), (false, 2), (false, 3), (false, 4)] rfl ?_
  refine At.e rfl rfl rfl rfl .all (R.move (.t rfl)) ?_
  refine At.e rfl rfl rfl rfl .all (R.nilCheckP (.t rfl)) ?_
  refine At.e rfl rfl rfl rfl .all (R.fieldAddr fo_93_4 (.t rfl)) ?_
  refine At.e rfl rfl rfl rfl .all (R.load Try.underlying4 rfl (.t rfl) (by exact cS M0 rfl)) ?_
  refine At.e rfl rfl rfl rfl .all (R.assign (.t rfl)) ?_
  refine At.nil ?_
  refine At.tN ?_
  refine At.condF (.t rfl) ?_
  refine At.seq ?_
  refine At.plain [(false, 0), (false, 1), (false, 2), (false, 3), (false, 4), (false, 5)] rfl ?_
  refine At.e rfl rfl rfl rfl .all (R.move (.t rfl)) ?_
  refine At.e rfl rfl rfl rfl .all (R.nilCheckP (.t rfl)) ?_
  refine At.e rfl rfl rfl rfl .all (R.fieldAddr fo_93_3 (.t rfl)) ?_
  refine At.e rfl rfl rfl rfl .all (R.load Try.underlying37 rfl (.t rfl) (by exact cS M0 rfl)) ?_
  refine At.e rfl rfl rfl rfl .all (R.neqNilP Try.underlying37 (.t rfl)) ?_
  refine At.e rfl rfl rfl rfl .all (R.assign (.t rfl)) ?_
  refine At.nil ?_
  refine At.tN ?_
  refine At.condF (.t rfl) ?_
  refine At.seq ?_
  refine At.plain [(false, 0), (false, 1), (false, 2), (false, 3), (false, 4), (false, 5), (false, 6)] rfl ?_
  refine At.e rfl rfl rfl rfl .all (R.move (.t rfl)) ?_
  refine At.e rfl rfl rfl rfl .all (R.nilCheckP (.t rfl)) ?_
  refine At.e rfl rfl rfl rfl .all (R.fieldAddr fo_93_2 (.t rfl)) ?_
  refine At.e rfl rfl rfl rfl .all (R.load Try.underlying90 rfl (.t rfl) (by exact cS M0 rfl)) ?_
  refine At.e rfl rfl rfl rfl .all (R.move (.t rfl)) ?_
  refine At.callM (fst := []) (cap := []) rfl rfl rfl Ev.f (.cons (.t rfl) (.cons (.t rfl) .nil)) rfl (.h (.skip (.take (.take (.take .nil))))) .nil (v_Step (x := x) (a := A) hx hl hn hN hf hw) keysWk .nil ⟨.all, ?_⟩
  refine At.e rfl rfl rfl rfl .all (R.assign (.t rfl)) ?_
  refine At.nil ?_
  refine At.tN ?_
  refine At.condD (.t rfl) (fun c3 => ?_) (fun c3 => ?_)
  · skip
    refine At.drawM ([gtB bg a b c d key bw none false, wkB bw (x.go A)]) ([]) [(true, 0), (true, 1), (true, 2), (true, 3), (true, 5), (true, 6), (true, 7), (true, 10), (true, 11), (true, 12), (true, 14), (true, 15), (true, 16)] [(true, 4), (true, 8), (true, 13), (true, 17), (false, 9), (false, 18)] [(true, 19), (true, 20), (false, 21)] (by (exact keepOf (by (apply List.Sublist.cons_cons; apply List.Sublist.cons_cons; exact List.nil_sublist _)))) (fun _ h => nomatch h) (by kernel_rfl) (by kernel_rfl) ?_
    refine At.s rfl rfl rfl rfl Cl.none (R.move (.t rfl)) ?_
    refine At.s rfl rfl rfl rfl Cl.none (R.move (.t rfl)) ?_
    refine At.s rfl rfl rfl rfl Cl.none (R.nilCheckP (.t rfl)) ?_
    refine At.s rfl rfl rfl rfl Cl.none (R.fieldAddr fo_93_0 (.t rfl)) ?_
    refine At.s rfl rfl rfl rfl Cl.none (R.move (.t rfl)) ?_
    refine At.s rfl rfl rfl rfl Cl.none (R.nilCheckP (.t rfl)) ?_
    refine At.s rfl rfl rfl rfl Cl.none (R.fieldAddr fo_93_2 (.t rfl)) ?_
    refine At.s rfl rfl rfl rfl Cl.none (R.move (.t rfl)) ?_
    refine At.s rfl rfl rfl rfl Cl.none (R.nilCheckP (.t rfl)) ?_
    refine At.s rfl rfl rfl rfl Cl.none (R.fieldAddr fo_93_1 (.t rfl)) ?_
    refine At.s rfl rfl rfl rfl Cl.none (R.move (.t rfl)) ?_
    refine At.s rfl rfl rfl rfl Cl.none (R.nilCheckP (.t rfl)) ?_
    refine At.s rfl rfl rfl rfl Cl.none (R.fieldAddr fo_93_1 (.t rfl)) ?_
    refine At.stage (Cl.kept (by (exact keepOf (by (apply List.Sublist.cons_cons; apply List.Sublist.cons_cons; exact List.nil_sublist _))))) ?_
    refine At.s rfl rfl rfl rfl (Cl.kept (by (exact keepOf (by (apply List.Sublist.cons_cons; apply List.Sublist.cons_cons; exact List.nil_sublist _))))) (R.loadAgg (vs := [_, _, _, _]) Try.underlying26 rfl sz_26 (.t rfl) (by exact csK M0 ⟨rfl, rfl, rfl, rfl, trivial⟩)) ?_
    refine At.s rfl rfl rfl rfl (Cl.kept (by (exact keepOf (by (apply List.Sublist.cons_cons; apply List.Sublist.cons_cons; exact List.nil_sublist _))))) (R.load Try.underlying90 rfl (.t rfl) (by exact cK M0 rfl)) ?_
    refine At.s rfl rfl rfl rfl (Cl.kept (by (exact keepOf (by (apply List.Sublist.cons_cons; apply List.Sublist.cons_cons; exact List.nil_sublist _))))) (R.load Try.underlying3 rfl (.t rfl) (by exact cK M0 rfl)) ?_
    refine At.s rfl rfl rfl rfl (Cl.kept (by (exact keepOf (by (apply List.Sublist.cons_cons; apply List.Sublist.cons_cons; exact List.nil_sublist _))))) (R.load Try.underlying3 rfl (.t rfl) (by exact cK M0 rfl)) ?_
    refine At.callVR rfl rfl rfl (.cons (.t rfl) .nil) (by (exact .blk (.st M1) .nil)) (fun hg => v_Chunk (x := x.go A)) (Cl.kept (by (exact keepOf (by (apply List.Sublist.cons_cons; apply List.Sublist.cons_cons; exact List.nil_sublist _))))) ?_
    refine At.callP (fst := []) (cap := []) rfl rfl rfl Ev.f (.cons (.t rfl) (.cons (.t rfl) (.cons (.t rfl) (.cons (.t rfl) (.cons .c .nil))))) rfl (k_New (a := a) (b := b) (c := c) (d := d) (chunk := (x.go A).chunk) (lo := key) (hi := key)) (fun _ h => nomatch h) (fun v N1 H1 hR => ?_); obtain ⟨bl, bm, rfl, rfl, rfl⟩ := hR; refine ⟨rfl, (Cl.kept (by (exact keepOf (by (apply List.Sublist.cons; apply List.Sublist.cons; apply List.Sublist.cons_cons; apply List.Sublist.cons_cons; exact List.nil_sublist _))))), ?_⟩
    refine At.stage Cl.none ?_
    refine At.s rfl rfl rfl rfl Cl.none (R.nilCheckP (.t rfl)) ?_
    refine At.s rfl rfl rfl rfl Cl.none (R.fieldAddr fo_93_3 (.t rfl)) ?_
    refine At.st1 rfl rfl sz_37 (.t rfl) (.t rfl) rfl rfl (.h U0) ⟨Cl.none, ?_⟩
    refine At.nil ?_
    refine At.bN ?_
    refine At.tN ?_
    refine At.seq ?_
    refine At.plain [(false, 0), (false, 1), (false, 2), (false, 3), (false, 4)] rfl ?_
    refine At.e rfl rfl rfl rfl .all (R.move (.t rfl)) ?_
    refine At.e rfl rfl rfl rfl .all (R.nilCheckP (.t rfl)) ?_
    refine At.e rfl rfl rfl rfl .all (R.fieldAddr fo_93_4 (.t rfl)) ?_
    refine At.e rfl rfl rfl rfl .all (R.load Try.underlying4 rfl (.t rfl) (by exact cS M2 rfl)) ?_
    refine At.e rfl rfl rfl rfl .all (R.assign (.t rfl)) ?_
    refine At.nil ?_
    refine At.tN ?_
    refine At.ret ?_
    exact At.final (N' := [lkB bl bm (⟨a, b, c, d, (x.go A).chunk, key, key, 1073741824, 1, 0, -1, 0, 0, 0, []⟩ : Lk), lkM bm (⟨a, b, c, d, (x.go A).chunk, key, key, 1073741824, 1, 0, -1, 0, 0, 0, []⟩ : Lk)]) rfl (.t rfl) (by (exact List.Sublist.refl _)) (⟨bl, bm, rfl, rfl, rfl⟩)
  · exact absurd hg (by simpa using c3)

theorem g_StepL {bg bw bl bm ba n : Nat} {wv : Value} {a b c d key : Int} {y : Lk} {A : Ar} (hx : y.ok) (hn : A.w.length = n) (hN : n ≤ 1000000) (hf : A.few) (hw : A.word) : Fn Try.prog 38 [.pointer (some ⟨bg, 0, none⟩), .pointer (some ⟨ba, 0, none⟩)] ([]) ([gtB bg a b c d key bw (some bl) false, lkB bl bm y, lkM bm y, arB ba wv A, arW wv n A]) (IsM (.bool (decide ((y.step A).1.line = 0))) [gtB bg a b c d key bw (some bl) (decide ((y.step A).1.line = 0)), lkB bl bm (y.step A).1, lkM bm (y.step A).1, arB ba wv (y.step A).2, arW wv n (y.step A).2]) := by
  refine Fn.enter Try.func38 (by kernel_rfl) rfl (n := 57) rfl rfl (fun w => ?_)
  refine At.seq ?_
  refine At.plain [(false, 0)] rfl ?_
  refine At.e rfl rfl rfl rfl .all (R.assign .c) ?_
  refine At.nil ?_
  refine At.tN ?_
  refine At.seq ?_
  refine At.block ?_
  refine At.seq ?_
  refine At.plain [(false, 0), (false, 1), (false, 2), (false, 3), (false, 4)] rfl ?_
  refine At.e rfl rfl rfl rfl .all (R.move (.t rfl)) ?_
  refine At.e rfl rfl rfl rfl .all (R.nilCheckP (.t rfl)) ?_
  refine At.e rfl rfl rfl rfl .all (R.fieldAddr fo_93_4 (.t rfl)) ?_
  refine At.e rfl rfl rfl rfl .all (R.load Try.underlying4 rfl (.t rfl) (by exact cS M0 rfl)) ?_
  refine At.e rfl rfl rfl rfl .all (R.assign (.t rfl)) ?_
  refine At.nil ?_
  refine At.tN ?_
  refine At.condF (.t rfl) ?_
  refine At.seq ?_
  refine At.plain [(false, 0), (false, 1), (false, 2), (false, 3), (false, 4), (false, 5)] rfl ?_
  refine At.e rfl rfl rfl rfl .all (R.move (.t rfl)) ?_
  refine At.e rfl rfl rfl rfl .all (R.nilCheckP (.t rfl)) ?_
  refine At.e rfl rfl rfl rfl .all (R.fieldAddr fo_93_3 (.t rfl)) ?_
  refine At.e rfl rfl rfl rfl .all (R.load Try.underlying37 rfl (.t rfl) (by exact cS M0 rfl)) ?_
  refine At.e rfl rfl rfl rfl .all (R.neqNilP Try.underlying37 (.t rfl)) ?_
  refine At.e rfl rfl rfl rfl .all (R.assign (.t rfl)) ?_
  refine At.nil ?_
  refine At.tN ?_
  refine At.condT (.t rfl) ?_
  refine At.plain [(false, 0), (false, 1), (false, 2), (false, 3), (false, 4), (false, 5), (false, 6), (false, 7), (false, 8), (false, 9)] rfl ?_
  refine At.e rfl rfl rfl rfl .all (R.move (.t rfl)) ?_
  refine At.e rfl rfl rfl rfl .all (R.move (.t rfl)) ?_
  refine At.e rfl rfl rfl rfl .all (R.nilCheckP (.t rfl)) ?_
  refine At.e rfl rfl rfl rfl .all (R.fieldAddr fo_93_3 (.t rfl)) ?_
  refine At.e rfl rfl rfl rfl .all (R.load Try.underlying37 rfl (.t rfl) (by exact cS M0 rfl)) ?_
  refine At.e rfl rfl rfl rfl .all (R.move (.t rfl)) ?_
  refine At.callM (fst := []) (cap := []) rfl rfl rfl Ev.f (.cons (.t rfl) (.cons (.t rfl) .nil)) rfl (.h (.skip (.take (.take (.take (.take .nil)))))) .nil (k_Step (x := y) (a := A) hx hn hN hf hw) keysLk .nil ⟨.all, ?_⟩
  refine At.e rfl rfl rfl rfl .all (R.nilCheckP (.t rfl)) ?_
  refine At.e rfl rfl rfl rfl .all (R.fieldAddr fo_93_4 (.t rfl)) ?_
  refine At.st1 rfl rfl sz_4 (.t rfl) (.t rfl) rfl rfl (.h U0) ⟨.all, ?_⟩
  refine At.nil ?_
  refine At.bN ?_
  refine At.tN ?_
  refine At.seq ?_
  refine At.plain [(false, 0), (false, 1), (false, 2), (false, 3), (false, 4)] rfl ?_
  refine At.e rfl rfl rfl rfl .all (R.move (.t rfl)) ?_
  refine At.e rfl rfl rfl rfl .all (R.nilCheckP (.t rfl)) ?_
  refine At.e rfl rfl rfl rfl .all (R.fieldAddr fo_93_4 (.t rfl)) ?_
  refine At.e rfl rfl rfl rfl .all (R.load Try.underlying4 rfl (.t rfl) (by exact cS M0 rfl)) ?_
  refine At.e rfl rfl rfl rfl .all (R.assign (.t rfl)) ?_
  refine At.nil ?_
  refine At.tN ?_
  refine At.ret ?_
  exact At.final rfl (.t rfl) (List.nil_sublist _) (⟨rfl, rfl, rfl⟩)

theorem g_Answer {bg bw bl bm : Nat} {a b c d key : Int} {y : Lk} (hN : y.ml.length ≤ 1000) (hdt : ∀ e ∈ y.ml, 0 ≤ e.2.data ∧ e.2.data ≤ 9223372036854775807) : Fn Try.prog 40 [.pointer (some ⟨bg, 0, none⟩)] ([gtB bg a b c d key bw (some bl) true, lkB bl bm y, lkM bm y]) ([]) (fun v N H => ∃ zs, (∃ ys : List Int, ys.Perm (y.ml.map (·.1)) ∧ ys.Pairwise (· ≤ ·) ∧ zs = ys.map fun k => (aget y.ml k).getD default) ∧ v = .agg (ansV (ofA zs key)) ∧ N = [] ∧ H = []) := by
  refine Fn.enter Try.func40 (by kernel_rfl) rfl (n := 19) rfl rfl (fun w => ?_)
  refine At.seq ?_
  refine At.plain [(false, 0)] rfl ?_
  refine At.alloc rfl rfl rfl ze_50 (fun b1 hb1 => ⟨.all, ?_⟩)
  refine At.nil ?_
  refine At.tN ?_
  refine At.seq ?_
  refine At.seq ?_
  refine At.plain [(false, 0), (false, 1), (false, 2), (false, 3), (false, 4)] rfl ?_
  refine At.e rfl rfl rfl rfl .all (R.move (.t rfl)) ?_
  refine At.e rfl rfl rfl rfl .all (R.nilCheckP (.t rfl)) ?_
  refine At.e rfl rfl rfl rfl .all (R.fieldAddr fo_93_4 (.t rfl)) ?_
  refine At.e rfl rfl rfl rfl .all (R.load Try.underlying4 rfl (.t rfl) (by exact cS M0 rfl)) ?_
  refine At.e rfl rfl rfl rfl .all (R.not (.t rfl)) ?_
  refine At.nil ?_
  refine At.tN ?_
  refine At.condF (.t rfl) ?_
  refine At.skip ?_
  refine At.tN ?_
  refine At.seq ?_
  refine At.drawM ([gtB bg a b c d key bw (some bl) true, lkB bl bm y, lkM bm y]) ([]) [(true, 0), (true, 1), (true, 2), (true, 5), (true, 6), (true, 7)] [(true, 3), (true, 8), (false, 4), (false, 9)] [(false, 10)] (by (exact keepOf (by (apply List.Sublist.cons_cons; apply List.Sublist.cons_cons; apply List.Sublist.cons_cons; exact List.nil_sublist _)))) (fun _ h => nomatch h) (by kernel_rfl) (by kernel_rfl) ?_
  refine At.s rfl rfl rfl rfl Cl.none (R.move (.t rfl)) ?_
  refine At.s rfl rfl rfl rfl Cl.none (R.nilCheckP (.t rfl)) ?_
  refine At.s rfl rfl rfl rfl Cl.none (R.fieldAddr fo_93_3 (.t rfl)) ?_
  refine At.s rfl rfl rfl rfl Cl.none (R.move (.t rfl)) ?_
  refine At.s rfl rfl rfl rfl Cl.none (R.nilCheckP (.t rfl)) ?_
  refine At.s rfl rfl rfl rfl Cl.none (R.fieldAddr fo_93_1 (.t rfl)) ?_
  refine At.stage (Cl.kept (by (exact keepOf (by (apply List.Sublist.cons_cons; apply List.Sublist.cons_cons; apply List.Sublist.cons_cons; exact List.nil_sublist _))))) ?_
  refine At.s rfl rfl rfl rfl (Cl.kept (by (exact keepOf (by (apply List.Sublist.cons_cons; apply List.Sublist.cons_cons; apply List.Sublist.cons_cons; exact List.nil_sublist _))))) (R.load Try.underlying37 rfl (.t rfl) (by exact cK M0 rfl)) ?_
  refine At.s rfl rfl rfl rfl (Cl.kept (by (exact keepOf (by (apply List.Sublist.cons_cons; apply List.Sublist.cons_cons; apply List.Sublist.cons_cons; exact List.nil_sublist _))))) (R.load Try.underlying3 rfl (.t rfl) (by exact cK M0 rfl)) ?_
  refine At.callP (fst := []) (cap := []) rfl rfl rfl Ev.f (.cons (.t rfl) .nil) rfl (k_Items (b := bl) (bm := bm) (x := y) hN) (Rds.blk (.st M1) (Rds.blk (.st M2) .nil)).all (fun vi N1 H1 hR => ?_); obtain ⟨zs, hzs, rfl, rfl⟩ := hR; refine ⟨rfl, (Cl.kept (by (exact keepOf (by (apply List.Sublist.cons_cons; apply List.Sublist.cons_cons; apply List.Sublist.cons_cons; exact List.nil_sublist _))))), ?_⟩
  refine At.callVR rfl rfl rfl (.cons (.t rfl) (.cons (.t rfl) .nil)) (by (exact .cons (by (exact wS M3)) .nil)) (fun hg => g_Of (v := vi) (xs := zs) (key := key) (items_len hzs hN) (items_data hzs hdt)) (Cl.kept (by (exact keepOf (by (apply List.Sublist.cons_cons; apply List.Sublist.cons_cons; apply List.Sublist.cons_cons; exact List.nil_sublist _))))) ?_
  refine At.stage Cl.none ?_
  refine At.stAll (vs := (ansV (ofA zs key)).toList) rfl rfl sz_50 (.t rfl) (.t rfl) rfl rfl rfl (.n U1) ⟨Cl.none, ?_⟩
  refine At.nil ?_
  refine At.tN ?_
  refine At.ret ?_
  exact At.final rfl (.a (vs := [_, _, _, _, _, _]) Try.underlying50 rfl sz_50 rfl (by exact csS M4 ⟨rfl, rfl, rfl, rfl, rfl, rfl, trivial⟩)) (List.nil_sublist _) (⟨zs, hzs, rfl, rfl, rfl⟩)

theorem c_SamePairs0  : Fn Try.prog 56 [.slice none 0 0, .slice none 0 0] ([]) ([]) (IsV (.bool true)) := by
  refine Fn.enter Try.func56 (by kernel_rfl) rfl (n := 26) rfl rfl (fun w => ?_)
  refine At.seq ?_
  refine At.plain [(false, 0)] rfl ?_
  refine At.e rfl rfl rfl rfl .all (R.assign .c) ?_
  refine At.nil ?_
  refine At.tN ?_
  refine At.seq ?_
  refine At.seq ?_
  refine At.plain [(false, 0), (false, 1), (false, 2), (false, 3), (false, 4)] rfl ?_
  refine At.e rfl rfl rfl rfl .all (R.move (.t rfl)) ?_
  refine At.e rfl rfl rfl rfl .all (R.lenSl Try.underlying48 (.t rfl)) ?_
  refine At.e rfl rfl rfl rfl .all (R.move (.t rfl)) ?_
  refine At.e rfl rfl rfl rfl .all (R.lenSl Try.underlying48 (.t rfl)) ?_
  refine At.e rfl rfl rfl rfl .all (R.as (R.neq (.t rfl) (.t rfl)) (fun _ => congrArg Value.bool (congrArg Bool.not (decide_eq_true (by rfl))))) ?_
  refine At.nil ?_
  refine At.tN ?_
  refine At.condF (.t rfl) ?_
  refine At.skip ?_
  refine At.tN ?_
  refine At.seq ?_
  refine At.seq ?_
  refine At.plain [(false, 0)] rfl ?_
  refine At.e rfl rfl rfl rfl .all (R.assign .c) ?_
  refine At.nil ?_
  refine At.tN ?_
  refine At.block ?_
  refine At.loop1 (fun (i : Nat) => i = 0) (fun (i : Nat) => i) (fun (i : Nat) => [(0, true, .slice none 0 0), (1, true, .slice none 0 0), (5, true, .int .i64 0)]) (fun (i : Nat) => []) (fun (i : Nat) => []) (0) rfl (.cons rfl (.cons rfl (.cons rfl .nil))) (by (exact List.Sublist.refl _)) rfl (fun i hi => ?_)
  refine At.seq ?_
  refine At.seq ?_
  refine At.plain [(false, 0), (false, 1), (false, 2), (false, 3)] rfl ?_
  refine At.e rfl rfl rfl rfl .all (R.move (.t rfl)) ?_
  refine At.e rfl rfl rfl rfl .all (R.move (.t rfl)) ?_
  refine At.e rfl rfl rfl rfl .all (R.lenSl Try.underlying48 (.t rfl)) ?_
  refine At.e rfl rfl rfl rfl .all (R.as (R.lss (.t rfl) (.t rfl)) (fun _ => congrArg Value.bool (decide_eq_false (by omega)))) ?_
  refine At.nil ?_
  refine At.tN ?_
  refine At.condF (.t rfl) ?_
  refine At.exit ?_
  refine At.tE ?_
  refine At.tE ?_
  refine At.bE ?_
  refine At.tN ?_
  refine At.seq ?_
  refine At.plain [(false, 0)] rfl ?_
  refine At.e rfl rfl rfl rfl .all (R.assign .c) ?_
  refine At.nil ?_
  refine At.tN ?_
  refine At.ret ?_
  exact At.final rfl (.t rfl) (List.nil_sublist _) (⟨rfl, rfl, rfl⟩)

theorem c_SameAnswer0 {x : An} : Fn Try.prog 39 [.agg (ansV x), .agg (ansV x)] ([]) ([]) (IsV (.bool true)) := by
  refine Fn.enter Try.func39 (by kernel_rfl) rfl (n := 45) rfl rfl (fun w => ?_)
  refine At.seq ?_
  refine At.plain [(false, 0), (false, 1), (false, 2)] rfl ?_
  refine At.box rfl rfl rfl (.t rfl) (fun b1 hb1 => ⟨.all, ?_⟩)
  refine At.box rfl rfl rfl (.t rfl) (fun b2 hb2 => ⟨.all, ?_⟩)
  refine At.e rfl rfl rfl rfl .all (R.assign .c) ?_
  refine At.nil ?_
  refine At.tN ?_
  refine At.seq ?_
  refine At.plain [(false, 0), (false, 1), (false, 2), (false, 3), (false, 4), (false, 5), (false, 6), (false, 7), (false, 8), (false, 9), (false, 10), (false, 11), (false, 12), (false, 13), (false, 14), (false, 15), (false, 16), (false, 17), (false, 18), (false, 19), (false, 20), (false, 21), (false, 22), (false, 23), (false, 24), (false, 25), (false, 26), (false, 27), (false, 28), (false, 29), (false, 30), (false, 31), (false, 32), (false, 33), (false, 34), (false, 35), (false, 36), (false, 37), (false, 38), (false, 39), (false, 40)] rfl ?_
  refine At.e rfl rfl rfl rfl .all (R.fieldAddr fo_50_0 (.t rfl)) ?_
  refine At.e rfl rfl rfl rfl .all (R.load Try.underlying3 rfl (.t rfl) (by exact cS M1 rfl)) ?_
  refine At.e rfl rfl rfl rfl .all (R.fieldAddr fo_50_0 (.t rfl)) ?_
  refine At.e rfl rfl rfl rfl .all (R.load Try.underlying3 rfl (.t rfl) (by exact cS M0 rfl)) ?_
  refine At.e rfl rfl rfl rfl .all (R.as (R.eql (.t rfl) (.t rfl)) (fun _ => congrArg Value.bool (decide_eq_true (by rfl)))) ?_
  refine At.e rfl rfl rfl rfl .all (R.move (.t rfl)) ?_
  refine At.e rfl rfl rfl rfl .all (R.fieldAddr fo_50_1 (by exact .t rfl)) ?_
  refine At.e rfl rfl rfl rfl .all (R.load Try.underlying4 rfl (by exact .t rfl) (by exact cS M1 rfl)) ?_
  refine At.e rfl rfl rfl rfl .all (R.fieldAddr fo_50_1 (by exact .t rfl)) ?_
  refine At.e rfl rfl rfl rfl .all (R.load Try.underlying4 rfl (by exact .t rfl) (by exact cS M0 rfl)) ?_
  refine At.e rfl rfl rfl rfl .all (R.as (R.eqlB Try.underlying4 (by exact .t rfl) (by exact .t rfl)) (fun _ => congrArg Value.bool (beq_self_eq_true _))) ?_
  refine At.e rfl rfl rfl rfl .all (R.pickT (.t rfl) (.t rfl)) ?_
  refine At.e rfl rfl rfl rfl .all (R.move (.t rfl)) ?_
  refine At.e rfl rfl rfl rfl .all (R.fieldAddr fo_50_2 (by exact .t rfl)) ?_
  refine At.e rfl rfl rfl rfl .all (R.load Try.underlying3 rfl (by exact .t rfl) (by exact cS M1 rfl)) ?_
  refine At.e rfl rfl rfl rfl .all (R.fieldAddr fo_50_2 (by exact .t rfl)) ?_
  refine At.e rfl rfl rfl rfl .all (R.load Try.underlying3 rfl (by exact .t rfl) (by exact cS M0 rfl)) ?_
  refine At.e rfl rfl rfl rfl .all (R.as (R.eql (by exact .t rfl) (by exact .t rfl)) (fun _ => congrArg Value.bool (decide_eq_true (by rfl)))) ?_
  refine At.e rfl rfl rfl rfl .all (R.pickT (.t rfl) (.t rfl)) ?_
  refine At.e rfl rfl rfl rfl .all (R.move (.t rfl)) ?_
  refine At.e rfl rfl rfl rfl .all (R.fieldAddr fo_50_3 (by exact .t rfl)) ?_
  refine At.e rfl rfl rfl rfl .all (R.load Try.underlying3 rfl (by exact .t rfl) (by exact cS M1 rfl)) ?_
  refine At.e rfl rfl rfl rfl .all (R.fieldAddr fo_50_3 (by exact .t rfl)) ?_
  refine At.e rfl rfl rfl rfl .all (R.load Try.underlying3 rfl (by exact .t rfl) (by exact cS M0 rfl)) ?_
  refine At.e rfl rfl rfl rfl .all (R.as (R.eql (by exact .t rfl) (by exact .t rfl)) (fun _ => congrArg Value.bool (decide_eq_true (by rfl)))) ?_
  refine At.e rfl rfl rfl rfl .all (R.pickT (.t rfl) (.t rfl)) ?_
  refine At.e rfl rfl rfl rfl .all (R.move (.t rfl)) ?_
  refine At.e rfl rfl rfl rfl .all (R.fieldAddr fo_50_4 (by exact .t rfl)) ?_
  refine At.e rfl rfl rfl rfl .all (R.load Try.underlying3 rfl (by exact .t rfl) (by exact cS M1 rfl)) ?_
  refine At.e rfl rfl rfl rfl .all (R.fieldAddr fo_50_4 (by exact .t rfl)) ?_
  refine At.e rfl rfl rfl rfl .all (R.load Try.underlying3 rfl (by exact .t rfl) (by exact cS M0 rfl)) ?_
  refine At.e rfl rfl rfl rfl .all (R.as (R.eql (by exact .t rfl) (by exact .t rfl)) (fun _ => congrArg Value.bool (decide_eq_true (by rfl)))) ?_
  refine At.e rfl rfl rfl rfl .all (R.pickT (.t rfl) (.t rfl)) ?_
  refine At.e rfl rfl rfl rfl .all (R.move (.t rfl)) ?_
  refine At.e rfl rfl rfl rfl .all (R.fieldAddr fo_50_5 (by exact .t rfl)) ?_
  refine At.e rfl rfl rfl rfl .all (R.load Try.underlying48 rfl (by exact .t rfl) (by exact cS M1 rfl)) ?_
  refine At.e rfl rfl rfl rfl .all (R.fieldAddr fo_50_5 (by exact .t rfl)) ?_
  refine At.e rfl rfl rfl rfl .all (R.load Try.underlying48 rfl (by exact .t rfl) (by exact cS M0 rfl)) ?_
  refine At.callVR rfl rfl rfl (.cons (by exact .t rfl) (.cons (by exact .t rfl) .nil)) (by (exact .nil)) (fun hg => c_SamePairs0) .all ?_
  refine At.e rfl rfl rfl rfl .all (R.pickT (.t rfl) (.t rfl)) ?_
  refine At.e rfl rfl rfl rfl .all (R.assign (.t rfl)) ?_
  refine At.nil ?_
  refine At.tN ?_
  refine At.ret ?_
  exact At.final rfl (.t rfl) (List.nil_sublist _) (⟨rfl, rfl, rfl⟩)

end Go.Proofs.Ytimclnhklaldfaa
