/- L12 -/
import Derived.Test.YtimclnhklaldfaaG1
namespace Go.Proofs.Ytimclnhklaldfaa
open Go Go.RowKit
set_option maxRecDepth 10000
set_option linter.unusedVariables false
set_option maxHeartbeats 1000000



/-- The arena and the get of the known one, step by step. -/
def k12 : Nat → Wk × Ar
  | 0 => (⟨1, 3, 100, 1000, 7, 1, 0, 0, 0, 0⟩, mkA 1 3 100)
  | n + 1 => ((k12 n).1.go (k12 n).2, (k12 n).1.acc (k12 n).2)
def k12y : Lk := ⟨1, 3, 100, 1000, (k12 4).1.chunk, 7, 7, 1073741824, 1, 0, -1, 0, 0, 0, []⟩
theorem k12_okB : ∀ n : Fin 4, (0 ≤ (k12 n.1).1.th ∧ (k12 n.1).1.th ≤ 1000000) ∧ (0 ≤ (k12 n.1).1.key ∧ (k12 n.1).1.key ≤ 255) ∧ (-1152921504606846976 ≤ (k12 n.1).1.hint ∧ (k12 n.1).1.hint ≤ 1152921504606846976) ∧ (-1152921504606846976 ≤ (k12 n.1).1.cur ∧ (k12 n.1).1.cur ≤ 1152921504606846976) ∧ (-1152921504606846976 ≤ (k12 n.1).1.n ∧ (k12 n.1).1.n ≤ 1152921504606846976) := by decide +kernel
theorem k12_line : ∀ n : Fin 4, 0 ≤ (k12 n.1).1.line ∧ (k12 n.1).1.line ≤ 5 := by decide +kernel
theorem k12_few : ∀ n : Fin 5, (k12 n.1).2.few := by unfold Ar.few; decide +kernel
theorem k12_mid : ∀ n : Fin 5, (k12 n.1).2.mid := by unfold Ar.mid; decide +kernel
theorem k12_word : (k12 4).2.word := by unfold Ar.word; decide +kernel
theorem k12_len : ∀ n : Fin 5, (k12 n.1).2.w.length = 100 := by decide +kernel
theorem k12_go : ∀ n : Fin 3, ¬ ((k12 n.1).1.go (k12 n.1).2).line = 0 := by decide +kernel
theorem k12_go3 : ((k12 3).1.go (k12 3).2).line = 0 := by decide +kernel
theorem k12_y : (-1000000 ≤ k12y.chunk ∧ k12y.chunk ≤ 1000000) ∧ (k12y.step (k12 4).2).1.line = 0 ∧ (k12y.step (k12 4).2).1.ml = [] := by decide +kernel
theorem k12_facts : ∃ (ks : Nat → Wk × Ar) (y0 : Lk), ks 0 = (⟨1, 3, 100, 1000, 7, 1, 0, 0, 0, 0⟩, mkA 1 3 100) ∧ (∀ n, ks (n + 1) = ((ks n).1.go (ks n).2, (ks n).1.acc (ks n).2)) ∧ (⟨1, 3, 100, 1000, (ks 4).1.chunk, 7, 7, 1073741824, 1, 0, -1, 0, 0, 0, []⟩ : Lk) = y0 ∧ (∀ n : Fin 4, (ks n.1).1.ok) ∧ (∀ n : Fin 4, 0 ≤ (ks n.1).1.line ∧ (ks n.1).1.line ≤ 5) ∧
    (∀ n : Fin 5, (ks n.1).2.few) ∧ (∀ n : Fin 5, (ks n.1).2.mid) ∧ (ks 4).2.word ∧ (∀ n : Fin 5, (ks n.1).2.w.length = 100) ∧ (∀ n : Fin 3, ¬ ((ks n.1).1.go (ks n.1).2).line = 0) ∧ ((ks 3).1.go (ks 3).2).line = 0 ∧ y0.ok ∧ (y0.step (ks 4).2).1.line = 0 ∧ (y0.step (ks 4).2).1.ml = [] :=
  ⟨k12, k12y, rfl, fun _ => rfl, rfl, fun n => by obtain ⟨h1, h2, h3, h4, h5⟩ := k12_okB n; exact ⟨h1, h2, h3, h4, h5⟩, k12_line, k12_few, k12_mid, k12_word, k12_len, k12_go, k12_go3, ⟨k12_y.1, by show (-1 : Int) ≤ -1 ∧ (-1 : Int) ≤ 100000; omega, by show (-9223372036854775808 : Int) ≤ 0 ∧ (0 : Int) ≤ 9223372036854775807; omega⟩, k12_y.2.1, k12_y.2.2⟩
theorem ans_nil {ml : List (Int × Itm)} {ys : List Int} {zs : List Itm} (hm : ml = []) (h1 : ys.Perm (ml.map (·.1))) (h2 : zs = ys.map fun k => (aget ml k).getD default) : zs = [] := by
  subst hm; rw [List.map_nil] at h1; rw [h2, h1.eq_nil]; rfl
theorem g_StepLx {bg bw bl bm ba n : Nat} {wv : Value} {a b c d key : Int} {y : Lk} {A : Ar} (hy : y.ok ∧ (y.step A).1.line = 0) (hn : A.w.length = n) (hN : n ≤ 1000000) (hf : A.few) (hw : A.word) : Fn Try.prog 38 [.pointer (some ⟨bg, 0, none⟩), .pointer (some ⟨ba, 0, none⟩)] [] [gtB bg a b c d key bw (some bl) false, lkB bl bm y, lkM bm y, arB ba wv A, arW wv n A] (IsM (.bool true) [gtB bg a b c d key bw (some bl) true, lkB bl bm (y.step A).1, lkM bm (y.step A).1, arB ba wv (y.step A).2, arW wv n (y.step A).2]) := by
  have h := g_StepL (bg := bg) (bw := bw) (bl := bl) (bm := bm) (ba := ba) (wv := wv) (a := a) (b := b) (c := c) (d := d) (key := key) hy.1 hn hN hf hw
  rwa [hy.2, decide_eq_true rfl] at h
theorem g_Of1 {v : Value} : Fn Try.prog 19 [v, .int .i64 7] [rdE iK v [⟨7, 0, 6291462⟩, ⟨8, 0, 8388608⟩]] [] (IsV (.agg (ansV ⟨0, true, 5, 3, 0⟩))) := by
  have h := g_Of (v := v) (xs := [⟨7, 0, 6291462⟩, ⟨8, 0, 8388608⟩]) (key := 7) (by decide) (by decide)
  rwa [show ofA [⟨7, 0, 6291462⟩, ⟨8, 0, 8388608⟩] 7 = ⟨0, true, 5, 3, 0⟩ from by unfold ofA; rw [aget_ofM]; rfl] at h
theorem g_Of2 {v : Value} : Fn Try.prog 19 [v, .int .i64 8] [rdE iK v [⟨8, 0, 8388608⟩]] [] (IsV (.agg (ansV ⟨0, false, 0, 4, 0⟩))) := by
  have h := g_Of (v := v) (xs := [⟨8, 0, 8388608⟩]) (key := 8) (by decide) (by decide)
  rwa [show ofA [⟨8, 0, 8388608⟩] 8 = ⟨0, false, 0, 4, 0⟩ from by unfold ofA; rw [aget_ofM]; rfl] at h
theorem c_SA {x : An} (h : x = ⟨0, false, 0, -1, 0⟩) : Fn Try.prog 39 [.agg (ansV x), .agg #[.int .i64 0, .bool false, .int .i64 0, .int .i64 (-1), .int .i64 0, .slice none 0 0]] [] [] (IsV (.bool true)) := by subst h; exact c_SameAnswer0
theorem c_known12  : Fn Try.prog 18 [] ([]) ([]) (IsV (.bool true)) := by
  refine Fn.enter Try.func18 (by kernel_rfl) rfl (n := 73) rfl rfl (fun w => ?_)
  obtain ⟨ks, y0, hk0, hks, hy0, hok, hli, hfw, hmd, hw4, hln, hgo, hg3, hyk, hyl, hym⟩ := k12_facts
  have hy1 : y0.ok ∧ (y0.step (ks 4).2).1.line = 0 := ⟨hyk, hyl⟩
  refine At.seq ?_
  refine At.plain [(false, 0)] rfl ?_
  refine At.e rfl rfl rfl rfl .all (R.assign .c) ?_
  refine At.nil ?_
  refine At.tN ?_
  refine At.seq ?_
  refine At.plain [(false, 0), (false, 1), (false, 2)] rfl ?_
  refine At.callVR rfl rfl rfl (.cons .c (.cons .c (.cons .c .nil))) (by (exact .nil)) (fun hg => h_Conf) .all ?_
  refine At.alloc rfl rfl rfl ze_26 (fun b1 hb1 => ⟨.all, ?_⟩)
  refine At.stN rfl rfl sz_26 (.t rfl) (.t rfl) rfl rfl rfl (.n U0) ⟨.all, ?_⟩
  refine At.nil ?_
  refine At.tN ?_
  refine At.seq ?_
  refine At.plain [(false, 0), (false, 1), (false, 2), (false, 3), (false, 4), (false, 5), (false, 6)] rfl ?_
  refine At.e rfl rfl rfl rfl .all (R.loadAgg (vs := [_, _, _, _]) Try.underlying26 rfl sz_26 (.t rfl) (by exact csS M0 ⟨rfl, rfl, rfl, rfl, trivial⟩)) ?_
  refine At.callP (fst := []) (cap := []) rfl rfl rfl Ev.f (.cons (.t rfl) .nil) rfl (p_Make (a := 1) (b := 3) (c := 100) (d := 1000) (by unfold okC; decide)) (fun _ h => nomatch h) (fun v N1 H1 hR => ?_); obtain ⟨ba, wv, xa, hxa, rfl, rfl, rfl⟩ := hR; refine ⟨rfl, .all, ?_⟩
  refine At.e rfl rfl rfl rfl .all (R.move (.t rfl)) ?_
  refine At.e rfl rfl rfl rfl .all (R.extract (.t rfl) rfl) ?_
  refine At.e rfl rfl rfl rfl .all (R.extract (.t rfl) rfl) ?_
  refine At.e rfl rfl rfl rfl .all (R.assign (.t rfl)) ?_
  refine At.e rfl rfl rfl rfl .all (R.assign (.t rfl)) ?_
  refine At.nil ?_
  refine At.tN ?_
  refine At.seq ?_
  refine At.seq ?_
  refine At.plain [(false, 0), (false, 1), (false, 2), (false, 3), (false, 4), (false, 5)] rfl ?_
  refine At.e rfl rfl rfl rfl .all (R.move (.t rfl)) ?_
  refine At.e rfl rfl rfl rfl .all (R.neqNilI Try.underlying30 (.t rfl)) ?_
  refine At.e rfl rfl rfl rfl .all (R.move (.t rfl)) ?_
  refine At.e rfl rfl rfl rfl .all (R.move (by exact .t rfl)) ?_
  refine At.e rfl rfl rfl rfl .all (R.eqlNilP Try.underlying28 (by exact .t rfl)) ?_
  refine At.e rfl rfl rfl rfl .all (R.pickF (.t rfl) (.t rfl)) ?_
  refine At.nil ?_
  refine At.tN ?_
  refine At.condF (.t rfl) ?_
  refine At.skip ?_
  refine At.tN ?_
  refine At.seq ?_
  refine At.plain [(false, 0), (false, 1), (false, 2)] rfl ?_
  refine At.e rfl rfl rfl rfl .all (R.loadAgg (vs := [_, _, _, _]) Try.underlying26 rfl sz_26 (.t rfl) (by exact csS M2 ⟨rfl, rfl, rfl, rfl, trivial⟩)) ?_
  refine At.callP (fst := []) (cap := []) rfl rfl rfl Ev.f (.cons (.t rfl) (.cons .c .nil)) rfl (g_New (a := 1) (b := 3) (c := 100) (d := 1000) (key := 7)) (fun _ h => nomatch h) (fun v N1 H1 hR => ?_); obtain ⟨bg, bw, rfl, rfl, rfl⟩ := hR; refine ⟨rfl, .all, ?_⟩
  refine At.e rfl rfl rfl rfl .all (R.assign (.t rfl)) ?_
  refine At.nil ?_
  refine At.tN ?_
  refine At.seq ?_
  refine At.seq ?_
  refine At.plain [(false, 0), (false, 1)] rfl ?_
  refine At.e rfl rfl rfl rfl .all (R.move (.t rfl)) ?_
  refine At.e rfl rfl rfl rfl .all (R.eqlNilP Try.underlying74 (.t rfl)) ?_
  refine At.nil ?_
  refine At.tN ?_
  refine At.condF (.t rfl) ?_
  refine At.skip ?_
  refine At.tN ?_
  refine At.seq ?_
  refine At.plain [(false, 0)] rfl ?_
  refine At.e rfl rfl rfl rfl .all (R.assign .c) ?_
  refine At.nil ?_
  refine At.tN ?_
  refine At.seq ?_
  refine At.block ?_
  refine At.weak (fun _ _ h => h) (N' := [gtB bg 1 3 100 1000 7 bw none false, wkB bw (⟨1, 3, 100, 1000, 7, 1, 0, 0, 0, 0⟩ : Wk), arB ba wv xa, arW wv 100 xa]) (by (apply List.Sublist.cons_cons; apply List.Sublist.cons_cons; apply List.Sublist.cons_cons; apply List.Sublist.cons_cons; exact List.nil_sublist _)) ?_
  refine At.re (N' := (if 0 = 4 then [gtB bg 1 3 100 1000 7 bw (some 0) false, lkB 0 0 y0, lkM 0 y0, wkB bw (ks 4).1, arB ba wv (ks 4).2, arW wv 100 (ks 4).2] else [gtB bg 1 3 100 1000 7 bw none false, wkB bw (ks 0).1, arB ba wv (ks 0).2, arW wv 100 (ks 0).2])) (by rw [if_neg (by omega), hk0, hxa]) ?_
  refine At.loop3 (fun (n : Nat) (bl : Nat) (bm : Nat) => n ≤ 4) (fun (n : Nat) (bl : Nat) (bm : Nat) => 5 - n) (fun (n : Nat) (bl : Nat) (bm : Nat) => [(2, true, .pointer (some ⟨ba, 0, none⟩)), (4, true, .pointer (some ⟨bg, 0, none⟩)), (5, true, .int .i64 n)]) (fun (n : Nat) (bl : Nat) (bm : Nat) => (if n = 4 then [gtB bg 1 3 100 1000 7 bw (some bl) false, lkB bl bm y0, lkM bm y0, wkB bw (ks 4).1, arB ba wv (ks 4).2, arW wv 100 (ks 4).2] else [gtB bg 1 3 100 1000 7 bw none false, wkB bw (ks n).1, arB ba wv (ks n).2, arW wv 100 (ks n).2])) (fun (n : Nat) (bl : Nat) (bm : Nat) => []) (0) (0) (0) (Nat.zero_le _) (.cons rfl (.cons rfl (.cons rfl .nil))) (by (exact List.Sublist.refl _)) rfl (fun n bl bm hi => ?_)
  rcases (by omega : n = 0 ∨ n = 1 ∨ n = 2 ∨ n = 3 ∨ n = 4) with rfl | rfl | rfl | rfl | rfl
  · refine At.re (N' := [gtB bg 1 3 100 1000 7 bw none false, wkB bw (ks 0).1, arB ba wv (ks 0).2, arW wv 100 (ks 0).2]) (by rw [if_neg (by omega)]) ?_
    refine At.seq ?_
    refine At.seq ?_
    refine At.plain [(false, 0), (false, 1), (false, 2), (false, 3), (false, 4), (false, 5), (false, 6), (false, 7)] rfl ?_
    refine At.e rfl rfl rfl rfl .all (R.move (.t rfl)) ?_
    refine At.e rfl rfl rfl rfl .all (R.as (R.lss (.t rfl) .c) (fun _ => congrArg Value.bool (decide_eq_true (by omega)))) ?_
    refine At.e rfl rfl rfl rfl .all (R.move (.t rfl)) ?_
    refine At.e rfl rfl rfl rfl .all (R.move (by exact .t rfl)) ?_
    refine At.e rfl rfl rfl rfl .all (R.move (by exact .t rfl)) ?_
    refine At.callM (fst := []) (cap := []) rfl rfl rfl Ev.f (.cons (.t rfl) (.cons (.t rfl) .nil)) rfl (.n (.take (.take (.take (.take .nil))))) .nil (g_StepW (x := (ks 0).1) (A := (ks 0).2) (n := 100) (hok ⟨0, by omega⟩) (hli ⟨0, by omega⟩) (hln ⟨0, by omega⟩) (by omega) (hfw ⟨0, by omega⟩) (hmd ⟨0, by omega⟩) (hgo ⟨0, by omega⟩)) rfl .nil ⟨.all, ?_⟩
    refine At.e rfl rfl rfl rfl .all (R.not (by exact .t rfl)) ?_
    refine At.e rfl rfl rfl rfl .all (R.pickT (.t rfl) (.t rfl)) ?_
    refine At.nil ?_
    refine At.tN ?_
    refine At.condT (.t rfl) ?_
    refine At.skip ?_
    refine At.tN ?_
    refine At.block ?_
    refine At.plain [(false, 0), (false, 1), (false, 2)] rfl ?_
    refine At.e rfl rfl rfl rfl .all (R.move (.t rfl)) ?_
    refine At.e rfl rfl rfl rfl .all (R.addI (.t rfl) .c (fun hg => by omega)) ?_
    refine At.e rfl rfl rfl rfl .all (R.assign (.t rfl)) ?_
    refine At.nil ?_
    refine At.bN ?_
    refine At.re (N' := (if 1 = 4 then [gtB bg 1 3 100 1000 7 bw (some 0) false, lkB 0 0 y0, lkM 0 y0, wkB bw (ks 4).1, arB ba wv (ks 4).2, arW wv 100 (ks 4).2] else [gtB bg 1 3 100 1000 7 bw none false, wkB bw (ks 1).1, arB ba wv (ks 1).2, arW wv 100 (ks 1).2])) (by rw [if_neg (by omega), show ks 1 = _ from hks 0]) ?_
    refine At.tN ?_
    exact At.again3 (1) (0) (0) (by omega) (by omega) (.cons rfl (.cons rfl (.cons rfl .nil))) (by (exact List.Sublist.refl _)) rfl
  · refine At.re (N' := [gtB bg 1 3 100 1000 7 bw none false, wkB bw (ks 1).1, arB ba wv (ks 1).2, arW wv 100 (ks 1).2]) (by rw [if_neg (by omega)]) ?_
    refine At.seq ?_
    refine At.seq ?_
    refine At.plain [(false, 0), (false, 1), (false, 2), (false, 3), (false, 4), (false, 5), (false, 6), (false, 7)] rfl ?_
    refine At.e rfl rfl rfl rfl .all (R.move (.t rfl)) ?_
    refine At.e rfl rfl rfl rfl .all (R.as (R.lss (.t rfl) .c) (fun _ => congrArg Value.bool (decide_eq_true (by omega)))) ?_
    refine At.e rfl rfl rfl rfl .all (R.move (.t rfl)) ?_
    refine At.e rfl rfl rfl rfl .all (R.move (by exact .t rfl)) ?_
    refine At.e rfl rfl rfl rfl .all (R.move (by exact .t rfl)) ?_
    refine At.callM (fst := []) (cap := []) rfl rfl rfl Ev.f (.cons (.t rfl) (.cons (.t rfl) .nil)) rfl (.n (.take (.take (.take (.take .nil))))) .nil (g_StepW (x := (ks 1).1) (A := (ks 1).2) (n := 100) (hok ⟨1, by omega⟩) (hli ⟨1, by omega⟩) (hln ⟨1, by omega⟩) (by omega) (hfw ⟨1, by omega⟩) (hmd ⟨1, by omega⟩) (hgo ⟨1, by omega⟩)) rfl .nil ⟨.all, ?_⟩
    refine At.e rfl rfl rfl rfl .all (R.not (by exact .t rfl)) ?_
    refine At.e rfl rfl rfl rfl .all (R.pickT (.t rfl) (.t rfl)) ?_
    refine At.nil ?_
    refine At.tN ?_
    refine At.condT (.t rfl) ?_
    refine At.skip ?_
    refine At.tN ?_
    refine At.block ?_
    refine At.plain [(false, 0), (false, 1), (false, 2)] rfl ?_
    refine At.e rfl rfl rfl rfl .all (R.move (.t rfl)) ?_
    refine At.e rfl rfl rfl rfl .all (R.addI (.t rfl) .c (fun hg => by omega)) ?_
    refine At.e rfl rfl rfl rfl .all (R.assign (.t rfl)) ?_
    refine At.nil ?_
    refine At.bN ?_
    refine At.re (N' := (if 2 = 4 then [gtB bg 1 3 100 1000 7 bw (some 0) false, lkB 0 0 y0, lkM 0 y0, wkB bw (ks 4).1, arB ba wv (ks 4).2, arW wv 100 (ks 4).2] else [gtB bg 1 3 100 1000 7 bw none false, wkB bw (ks 2).1, arB ba wv (ks 2).2, arW wv 100 (ks 2).2])) (by rw [if_neg (by omega), show ks 2 = _ from hks 1]) ?_
    refine At.tN ?_
    exact At.again3 (2) (0) (0) (by omega) (by omega) (.cons rfl (.cons rfl (.cons rfl .nil))) (by (exact List.Sublist.refl _)) rfl
  · refine At.re (N' := [gtB bg 1 3 100 1000 7 bw none false, wkB bw (ks 2).1, arB ba wv (ks 2).2, arW wv 100 (ks 2).2]) (by rw [if_neg (by omega)]) ?_
    refine At.seq ?_
    refine At.seq ?_
    refine At.plain [(false, 0), (false, 1), (false, 2), (false, 3), (false, 4), (false, 5), (false, 6), (false, 7)] rfl ?_
    refine At.e rfl rfl rfl rfl .all (R.move (.t rfl)) ?_
    refine At.e rfl rfl rfl rfl .all (R.as (R.lss (.t rfl) .c) (fun _ => congrArg Value.bool (decide_eq_true (by omega)))) ?_
    refine At.e rfl rfl rfl rfl .all (R.move (.t rfl)) ?_
    refine At.e rfl rfl rfl rfl .all (R.move (by exact .t rfl)) ?_
    refine At.e rfl rfl rfl rfl .all (R.move (by exact .t rfl)) ?_
    refine At.callM (fst := []) (cap := []) rfl rfl rfl Ev.f (.cons (.t rfl) (.cons (.t rfl) .nil)) rfl (.n (.take (.take (.take (.take .nil))))) .nil (g_StepW (x := (ks 2).1) (A := (ks 2).2) (n := 100) (hok ⟨2, by omega⟩) (hli ⟨2, by omega⟩) (hln ⟨2, by omega⟩) (by omega) (hfw ⟨2, by omega⟩) (hmd ⟨2, by omega⟩) (hgo ⟨2, by omega⟩)) rfl .nil ⟨.all, ?_⟩
    refine At.e rfl rfl rfl rfl .all (R.not (by exact .t rfl)) ?_
    refine At.e rfl rfl rfl rfl .all (R.pickT (.t rfl) (.t rfl)) ?_
    refine At.nil ?_
    refine At.tN ?_
    refine At.condT (.t rfl) ?_
    refine At.skip ?_
    refine At.tN ?_
    refine At.block ?_
    refine At.plain [(false, 0), (false, 1), (false, 2)] rfl ?_
    refine At.e rfl rfl rfl rfl .all (R.move (.t rfl)) ?_
    refine At.e rfl rfl rfl rfl .all (R.addI (.t rfl) .c (fun hg => by omega)) ?_
    refine At.e rfl rfl rfl rfl .all (R.assign (.t rfl)) ?_
    refine At.nil ?_
    refine At.bN ?_
    refine At.re (N' := (if 3 = 4 then [gtB bg 1 3 100 1000 7 bw (some 0) false, lkB 0 0 y0, lkM 0 y0, wkB bw (ks 4).1, arB ba wv (ks 4).2, arW wv 100 (ks 4).2] else [gtB bg 1 3 100 1000 7 bw none false, wkB bw (ks 3).1, arB ba wv (ks 3).2, arW wv 100 (ks 3).2])) (by rw [if_neg (by omega), show ks 3 = _ from hks 2]) ?_
    refine At.tN ?_
    exact At.again3 (3) (0) (0) (by omega) (by omega) (.cons rfl (.cons rfl (.cons rfl .nil))) (by (exact List.Sublist.refl _)) rfl
  · refine At.re (N' := [gtB bg 1 3 100 1000 7 bw none false, wkB bw (ks 3).1, arB ba wv (ks 3).2, arW wv 100 (ks 3).2]) (by rw [if_neg (by omega)]) ?_
    refine At.seq ?_
    refine At.seq ?_
    refine At.plain [(false, 0), (false, 1), (false, 2), (false, 3), (false, 4), (false, 5), (false, 6), (false, 7)] rfl ?_
    refine At.e rfl rfl rfl rfl .all (R.move (.t rfl)) ?_
    refine At.e rfl rfl rfl rfl .all (R.as (R.lss (.t rfl) .c) (fun _ => congrArg Value.bool (decide_eq_true (by omega)))) ?_
    refine At.e rfl rfl rfl rfl .all (R.move (.t rfl)) ?_
    refine At.e rfl rfl rfl rfl .all (R.move (by exact .t rfl)) ?_
    refine At.e rfl rfl rfl rfl .all (R.move (by exact .t rfl)) ?_
    refine At.callMR (B := []) (N1 := []) (H1 := []) (fst := []) (cap := []) rfl rfl rfl Ev.f (.cons (.t rfl) (.cons (.t rfl) .nil)) rfl (.n (.take (.take (.take (.take .nil))))) .nil (g_StepE (x := (ks 3).1) (A := (ks 3).2) (n := 100) (hok ⟨3, by omega⟩) (hli ⟨3, by omega⟩) (hln ⟨3, by omega⟩) (by omega) (hfw ⟨3, by omega⟩) (hmd ⟨3, by omega⟩) hg3) .nil (fun v N2 B hR => ?_); obtain ⟨bl, bm, rfl, rfl, rfl⟩ := hR; refine ⟨_, _, .n (.take (.take (.take (.take .nil)))), rfl, .all, ?_⟩
    refine At.e rfl rfl rfl rfl .all (R.not (by exact .t rfl)) ?_
    refine At.e rfl rfl rfl rfl .all (R.pickT (.t rfl) (.t rfl)) ?_
    refine At.nil ?_
    refine At.tN ?_
    refine At.condT (.t rfl) ?_
    refine At.skip ?_
    refine At.tN ?_
    refine At.block ?_
    refine At.plain [(false, 0), (false, 1), (false, 2)] rfl ?_
    refine At.e rfl rfl rfl rfl .all (R.move (.t rfl)) ?_
    refine At.e rfl rfl rfl rfl .all (R.addI (.t rfl) .c (fun hg => by omega)) ?_
    refine At.e rfl rfl rfl rfl .all (R.assign (.t rfl)) ?_
    refine At.nil ?_
    refine At.bN ?_
    refine At.re (N' := [lkB bl bm y0, lkM bm y0, gtB bg 1 3 100 1000 7 bw (some bl) false, wkB bw (ks 4).1, arB ba wv (ks 4).2, arW wv 100 (ks 4).2]) (by rw [← hy0, show ks 4 = _ from hks 3]; rfl) ?_
    refine At.perm (N' := [gtB bg 1 3 100 1000 7 bw (some bl) false, lkB bl bm y0, lkM bm y0, wkB bw (ks 4).1, arB ba wv (ks 4).2, arW wv 100 (ks 4).2]) (List.Perm.trans ((List.Perm.swap _ _ _).cons _) (.swap _ _ _)) ?_
    refine At.re (N' := (if 4 = 4 then [gtB bg 1 3 100 1000 7 bw (some bl) false, lkB bl bm y0, lkM bm y0, wkB bw (ks 4).1, arB ba wv (ks 4).2, arW wv 100 (ks 4).2] else [gtB bg 1 3 100 1000 7 bw none false, wkB bw (ks 4).1, arB ba wv (ks 4).2, arW wv 100 (ks 4).2])) (by rw [if_pos rfl]) ?_
    refine At.tN ?_
    exact At.again3 (4) (bl) (bm) (by omega) (by omega) (.cons rfl (.cons rfl (.cons rfl .nil))) (by (exact List.Sublist.refl _)) rfl
  · refine At.re (N' := [gtB bg 1 3 100 1000 7 bw (some bl) false, lkB bl bm y0, lkM bm y0, wkB bw (ks 4).1, arB ba wv (ks 4).2, arW wv 100 (ks 4).2]) (by rw [if_pos rfl]) ?_
    refine At.seq ?_
    refine At.seq ?_
    refine At.plain [(false, 0), (false, 1), (false, 2), (false, 3), (false, 4), (false, 5), (false, 6), (false, 7)] rfl ?_
    refine At.e rfl rfl rfl rfl .all (R.move (.t rfl)) ?_
    refine At.e rfl rfl rfl rfl .all (R.as (R.lss (.t rfl) .c) (fun _ => congrArg Value.bool (decide_eq_true (by omega)))) ?_
    refine At.e rfl rfl rfl rfl .all (R.move (.t rfl)) ?_
    refine At.e rfl rfl rfl rfl .all (R.move (by exact .t rfl)) ?_
    refine At.e rfl rfl rfl rfl .all (R.move (by exact .t rfl)) ?_
    refine At.callM (fst := []) (cap := []) rfl rfl rfl Ev.f (.cons (.t rfl) (.cons (.t rfl) .nil)) rfl (.n (.take (.take (.take (.skip (.take (.take .nil))))))) .nil (g_StepLx (y := y0) (A := (ks 4).2) (n := 100) hy1 (hln ⟨4, by omega⟩) (by omega) (hfw ⟨4, by omega⟩) hw4) rfl .nil ⟨.all, ?_⟩
    refine At.e rfl rfl rfl rfl .all (R.not (by exact .t rfl)) ?_
    refine At.e rfl rfl rfl rfl .all (R.pickT (.t rfl) (.t rfl)) ?_
    refine At.nil ?_
    refine At.tN ?_
    refine At.condF (.t rfl) ?_
    refine At.exit ?_
    refine At.tE ?_
    refine At.tE ?_
    refine At.bE ?_
    refine At.tN ?_
    refine At.seq ?_
    refine At.plain [(false, 0), (false, 1), (false, 2), (false, 3), (false, 4), (false, 5)] rfl ?_
    refine At.e rfl rfl rfl rfl .all (R.build bt_45 (.cons .c (.cons .c .nil)) (.cons rfl (.cons rfl .nil)) rfl) ?_
    refine At.e rfl rfl rfl rfl .all (R.build bt_45 (.cons .c (.cons .c .nil)) (.cons rfl (.cons rfl .nil)) rfl) ?_
    refine At.lit (k := iK) rfl rfl rfl Try.underlying42 et_45 (.cons (.t rfl) (.cons (.t rfl) .nil)) (.cons (y := ⟨_, _, _⟩) rfl (.cons (y := ⟨_, _, _⟩) rfl .nil)) rfl rfl rfl (fun v1 => ⟨.all, ?_⟩)
    refine At.callP (fst := []) (cap := []) rfl rfl rfl Ev.f (.cons (.t rfl) (.cons .c .nil)) rfl g_Of1 (Rds.cons (by (exact wS M0)) .nil).all (fun v N1 H1 hR => ?_); obtain ⟨rfl, rfl, rfl⟩ := hR; refine ⟨rfl, .all, ?_⟩
    refine At.alloc rfl rfl rfl ze_50 (fun b2 hb2 => ⟨.all, ?_⟩)
    refine At.stN rfl rfl sz_50 (.t rfl) (.t rfl) rfl rfl rfl (.n U0) ⟨.all, ?_⟩
    refine At.nil ?_
    refine At.tN ?_
    refine At.seq ?_
    refine At.plain [(false, 0), (false, 1), (false, 2), (false, 3), (false, 4)] rfl ?_
    refine At.e rfl rfl rfl rfl .all (R.build bt_45 (.cons .c (.cons .c .nil)) (.cons rfl (.cons rfl .nil)) rfl) ?_
    refine At.lit (k := iK) rfl rfl rfl Try.underlying42 et_45 (.cons (.t rfl) .nil) (.cons (y := ⟨_, _, _⟩) rfl .nil) rfl rfl rfl (fun v2 => ⟨.all, ?_⟩)
    refine At.callP (fst := []) (cap := []) rfl rfl rfl Ev.f (.cons (.t rfl) (.cons .c .nil)) rfl g_Of2 (Rds.cons (by (exact wS M0)) .nil).all (fun v N1 H1 hR => ?_); obtain ⟨rfl, rfl, rfl⟩ := hR; refine ⟨rfl, .all, ?_⟩
    refine At.alloc rfl rfl rfl ze_50 (fun b3 hb3 => ⟨.all, ?_⟩)
    refine At.stN rfl rfl sz_50 (.t rfl) (.t rfl) rfl rfl rfl (.n U0) ⟨.all, ?_⟩
    refine At.nil ?_
    refine At.tN ?_
    refine At.seq ?_
    refine At.plain [(false, 0), (false, 1), (false, 2), (false, 3), (false, 4), (false, 5), (false, 6), (false, 7), (false, 8), (false, 9), (false, 10), (false, 11), (false, 12), (false, 13), (false, 14), (false, 15), (false, 16), (false, 17), (false, 18), (false, 19), (false, 20), (false, 21), (false, 22), (false, 23), (false, 24), (false, 25), (false, 26), (false, 27), (false, 28), (false, 29), (false, 30), (false, 31), (false, 32)] rfl ?_
    refine At.e rfl rfl rfl rfl .all (R.move (.t rfl)) ?_
    refine At.e rfl rfl rfl rfl .all (R.as (R.eql (.t rfl) .c) (fun _ => congrArg Value.bool (decide_eq_true (by rfl)))) ?_
    refine At.e rfl rfl rfl rfl .all (R.move (.t rfl)) ?_
    refine At.e rfl rfl rfl rfl .all (R.move (by exact .t rfl)) ?_
    refine At.callP (fst := []) (cap := []) rfl rfl rfl Ev.f (.cons (.t rfl) .nil) rfl (g_Answer (bg := bg) (bw := bw) (bl := bl) (bm := bm) (a := 1) (b := 3) (c := 100) (d := 1000) (key := 7) (y := (y0.step (ks 4).2).1) (by rw [hym]; decide) (by rw [hym]; exact fun e he => nomatch he)) (Rds.blk (.st (by (exact M4))) (Rds.blk (.st (by (exact M5))) (Rds.blk (.st (by (exact M6))) .nil))).all (fun v N1 H1 hR => ?_); obtain ⟨zs, ⟨ys, hz1, _, hz3⟩, rfl, rfl, rfl⟩ := hR; have hzs : zs = [] := ans_nil hym hz1 hz3; subst hzs; refine ⟨rfl, .all, ?_⟩
    refine At.e rfl rfl rfl rfl .all (R.build bt_50 (.cons .c .nil) (.cons rfl .nil) rfl) ?_
    refine At.callVR rfl rfl rfl (.cons (by exact .t rfl) (.cons (by exact .t rfl) .nil)) (by (exact .nil)) (fun hg => c_SA (by unfold ofA; rw [aget_ofM]; rfl)) .all ?_
    refine At.e rfl rfl rfl rfl .all (R.pickT (.t rfl) (.t rfl)) ?_
    refine At.e rfl rfl rfl rfl .all (R.move (.t rfl)) ?_
    refine At.e rfl rfl rfl rfl .all (R.fieldAddr fo_50_1 (by exact .t rfl)) ?_
    refine At.e rfl rfl rfl rfl .all (R.load Try.underlying4 rfl (by exact .t rfl) (by exact cS M2 rfl)) ?_
    refine At.e rfl rfl rfl rfl .all (R.pickT (.t rfl) (.t rfl)) ?_
    refine At.e rfl rfl rfl rfl .all (R.move (.t rfl)) ?_
    refine At.e rfl rfl rfl rfl .all (R.fieldAddr fo_50_2 (by exact .t rfl)) ?_
    refine At.e rfl rfl rfl rfl .all (R.load Try.underlying3 rfl (by exact .t rfl) (by exact cS M2 rfl)) ?_
    refine At.e rfl rfl rfl rfl .all (R.as (R.eql (by exact .t rfl) .c) (fun _ => congrArg Value.bool (decide_eq_true (by rfl)))) ?_
    refine At.e rfl rfl rfl rfl .all (R.pickT (.t rfl) (.t rfl)) ?_
    refine At.e rfl rfl rfl rfl .all (R.move (.t rfl)) ?_
    refine At.e rfl rfl rfl rfl .all (R.fieldAddr fo_50_3 (by exact .t rfl)) ?_
    refine At.e rfl rfl rfl rfl .all (R.load Try.underlying3 rfl (by exact .t rfl) (by exact cS M2 rfl)) ?_
    refine At.e rfl rfl rfl rfl .all (R.as (R.eql (by exact .t rfl) .c) (fun _ => congrArg Value.bool (decide_eq_true (by rfl)))) ?_
    refine At.e rfl rfl rfl rfl .all (R.pickT (.t rfl) (.t rfl)) ?_
    refine At.e rfl rfl rfl rfl .all (R.move (.t rfl)) ?_
    refine At.e rfl rfl rfl rfl .all (R.fieldAddr fo_50_1 (by exact .t rfl)) ?_
    refine At.e rfl rfl rfl rfl .all (R.load Try.underlying4 rfl (by exact .t rfl) (by exact cS M0 rfl)) ?_
    refine At.e rfl rfl rfl rfl .all (R.not (by exact .t rfl)) ?_
    refine At.e rfl rfl rfl rfl .all (R.pickT (.t rfl) (.t rfl)) ?_
    refine At.e rfl rfl rfl rfl .all (R.move (.t rfl)) ?_
    refine At.e rfl rfl rfl rfl .all (R.fieldAddr fo_50_3 (by exact .t rfl)) ?_
    refine At.e rfl rfl rfl rfl .all (R.load Try.underlying3 rfl (by exact .t rfl) (by exact cS M0 rfl)) ?_
    refine At.e rfl rfl rfl rfl .all (R.as (R.eql (by exact .t rfl) .c) (fun _ => congrArg Value.bool (decide_eq_true (by rfl)))) ?_
    refine At.e rfl rfl rfl rfl .all (R.pickT (.t rfl) (.t rfl)) ?_
    refine At.e rfl rfl rfl rfl .all (R.assign (.t rfl)) ?_
    refine At.nil ?_
    refine At.tN ?_
    refine At.ret ?_
    exact At.final rfl (.t rfl) (List.nil_sublist _) (⟨congrArg Value.bool (by rfl), rfl, rfl⟩)

end Go.Proofs.Ytimclnhklaldfaa
