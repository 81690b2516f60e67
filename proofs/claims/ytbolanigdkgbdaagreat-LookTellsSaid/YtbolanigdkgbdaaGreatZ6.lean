/- Part of the proof: lemmas for what the last file states; no condition. -/
import Derived.Test.YtbolanigdkgbdaaGreatZ5
set_option linter.unusedSectionVars false
namespace Go.Proofs.YtbolanigdkgbdaaGreat
open Go Go.RowKit
set_option maxRecDepth 10000
set_option linter.unusedVariables false
set_option maxHeartbeats 1000000
theorem bt_134 : buildTab Tryz.prog 134 = some (#[.int .i64 0, .bool false, .int .i64 0, .int .i64 0, .int .i64 0, .slice none 0 0], [(0, 1), (1, 1), (2, 1), (3, 1), (4, 1), (5, 1)]) := by kernel_rfl
theorem bt_156 : buildTab Tryz.prog 156 = some (#[.int .i64 0, .int .i64 0, .int .i64 0, .int .i64 0, .int .i64 0, .pointer none, .pointer none, .bool false], [(0, 1), (1, 4), (5, 1), (6, 1), (7, 1)]) := by kernel_rfl
theorem fo_43_2 : fieldOff? Tryz.prog 43 2 = some 2 := by kernel_rfl
theorem sz_134 : (Tryz.prog.info? 134).map (·.size) = some 6 := by kernel_rfl
theorem sz_4 : (Tryz.prog.info? 4).map (·.size) = some 1 := by kernel_rfl
theorem sz_52 : (Tryz.prog.info? 52).map (·.size) = some 1 := by kernel_rfl
theorem ze_134 : (Tryz.prog.info? 134).bind (·.zero) = some (.agg #[.int .i64 0, .bool false, .int .i64 0, .int .i64 0, .int .i64 0, .slice none 0 0]) := by kernel_rfl
structure An where
  code : Int
  found : Bool
  val : Int
  writer : Int
  version : Int
abbrev anV (x : An) (pv : Value) : Array Value := #[.int .i64 x.code, .bool x.found, .int .i64 x.val, .int .i64 x.writer, .int .i64 x.version, pv]
def foundD (l : List Itm) (key : Int) : An := match l.find? (fun y => decide (y.key = key)) with
  | some y => ⟨0, decide (0 ≤ y.data % 2097152 - 1), max 0 (y.data % 2097152 - 1), y.data / 2097152, 0⟩
  | none => ⟨0, false, 0, -1, 0⟩
theorem foundD_yes {l : List Itm} {key : Int} {i : Nat} (h : i < l.length) (h1 : (gE l (i : Int)).key = key) (h2 : ∀ j : Nat, j < i → (gE l (j : Int)).key ≠ key) : foundD l key = ⟨0, decide (0 ≤ (gE l (i : Int)).data % 2097152 - 1), max 0 ((gE l (i : Int)).data % 2097152 - 1), (gE l (i : Int)).data / 2097152, 0⟩ := by
  have : l.find? (fun y => decide (y.key = key)) = some (gE l (i : Int)) := by
    rw [List.find?_eq_some_iff_getElem]
    refine ⟨by simpa using h1, i, h, by simp [gE, h], fun j hj => ?_⟩
    have := h2 j hj
    simpa [gE, show j < l.length by omega] using this
  unfold foundD; rw [this]
theorem foundD_no {l : List Itm} {key : Int} {i : Nat} (h : l.length ≤ i) (h2 : ∀ j : Nat, j < i → (gE l (j : Int)).key ≠ key) : foundD l key = ⟨0, false, 0, -1, 0⟩ := by
  have : l.find? (fun y => decide (y.key = key)) = none := by
    rw [List.find?_eq_none]
    intro y hy
    obtain ⟨j, hj, rfl⟩ := List.getElem_of_mem hy
    have := h2 j (by omega)
    simpa [gE, hj] using this
  unfold foundD; rw [this]
abbrev dgC (a b c d key : Int) (bw : Nat) (lp : Option Nat) (over : Bool) : Array Value := #[.int .i64 key, .int .i64 a, .int .i64 b, .int .i64 c, .int .i64 d, .pointer (some ⟨bw, 0, none⟩), .pointer (match lp with | none => none | some bl => some ⟨bl, 0, none⟩), .bool over]
abbrev dgB (bg : Nat) (a b c d key : Int) (bw : Nat) (lp : Option Nat) (over : Bool) : Ent := .blk bg (.cells (dgC a b c d key bw lp over) 156)
theorem keysDw {b ba n : Nat} {wv : Value} {k k' : Dw} {x y x' y' : Rr} : keys [dwB b k, raB ba wv x, raW wv n y] = keys [dwB b k', raB ba wv x', raW wv n y'] := rfl
theorem dg_Found {v : Value} {l : List Itm} {key : Int} (hL : l.length ≤ 1000000) : Fn Tryz.prog 122 [v, .int .i64 key] ([rdE iK v l]) ([]) (IsV (.agg (anV (foundD l key) (.slice none 0 0)))) := by
 refine Fn.enter Tryz.func122 (by kernel_rfl) rfl (n := 38) rfl rfl (fun w => ?_)
 refine W ?_
 refine At.alloc rfl rfl rfl ze_134 (fun b1 hb1 => ⟨.all, ?_⟩)
 refine W ?_
 refine At.loop1 (fun (i : Nat) => i ≤ l.length ∧ ∀ j : Nat, j < i → (gE l (j : Int)).key ≠ key) (fun (i : Nat) => l.length - i) (fun (i : Nat) => [(0, true, v), (1, true, .int .i64 key), (4, true, .pointer (some ⟨b1, 0, none⟩)), (5, true, .int .i64 i)]) (fun (i : Nat) => [.blk b1 (.cells #[.int .i64 0, .bool false, .int .i64 0, .int .i64 0, .int .i64 0, .slice none 0 0] 134)]) (fun (i : Nat) => []) (0) ⟨Nat.zero_le _, fun j hj => absurd hj (Nat.not_lt_zero _)⟩ (.cons rfl (.cons rfl (.cons rfl (.cons rfl .nil)))) (List.Sublist.refl _) rfl (fun i hi => ?_)
 obtain ⟨hi1, hi2⟩ := hi
 refine W ?_
 refine eA rfl (R.lss (.t rfl) (.t rfl)) ?_
 refine W ?_
 refine At.condD (.t rfl) (fun c1 => ?_) (fun c1 => ?_)
 ·
  refine W ?_
  refine eA rfl (R.eql (.t rfl) (.t rfl)) ?_
  refine W ?_
  refine At.condD (.t rfl) (fun c2 => ?_) (fun c2 => ?_)
  ·
   refine W ?_
   refine At.callVR rfl rfl rfl (.k rfl .nil) (.nil) (fun hg => r_Val) .all ?_
   refine W ?_
   refine At.callVR rfl rfl rfl (.k rfl .nil) (.nil) (fun hg => r_Writer) .all ?_
   refine W ?_
   refine eA rfl (R.geq (.t rfl) .c) ?_
   refine W ?_
   refine eA rfl (R.max2 .c (.t rfl)) ?_
   refine eA rfl (R.build bt_134 (.k rfl (.k rfl (.k rfl .nil))) (.cons rfl (.cons rfl (.cons rfl .nil))) rfl) ?_
   refine At.stAll (vs := [.int .i64 0, .bool (decide (0 ≤ (gE l (i : Int)).data % 2097152 - 1)), .int .i64 (max 0 ((gE l (i : Int)).data % 2097152 - 1)), .int .i64 ((gE l (i : Int)).data / 2097152), .int .i64 0, .slice none 0 0]) rfl rfl sz_134 (.t rfl) (.t rfl) rfl rfl rfl (.n U0) ⟨.all, ?_⟩
   refine W ?_
   exact At.final rfl (.a (vs := [_, _, _, _, _, _]) Tryz.underlying134 rfl sz_134 rfl (csS M1 ⟨rfl, rfl, rfl, rfl, rfl, rfl, trivial⟩)) (List.nil_sublist _) (⟨by (rw [foundD_yes (by omega) c2 hi2]; rfl), rfl, rfl⟩)
  ·
   refine W ?_
   exact At.again1 (i + 1) ⟨by omega, fun j hj => (by rcases Nat.lt_succ_iff_lt_or_eq.1 hj with h | h; exact hi2 j h; subst h; exact c2)⟩ (by omega) (.cons rfl (.cons rfl (.cons rfl (.cons rfl .nil)))) (List.Sublist.refl _) rfl
 ·
  refine W ?_
  refine eA rfl (R.build bt_134 (.kc .nil) (.cons rfl .nil) rfl) ?_
  refine At.stAll (vs := [.int .i64 0, .bool false, .int .i64 0, .int .i64 (-1), .int .i64 0, .slice none 0 0]) rfl rfl sz_134 (.t rfl) (.t rfl) rfl rfl rfl (.n U0) ⟨.all, ?_⟩
  refine W ?_
  exact At.final rfl (.a (vs := [_, _, _, _, _, _]) Tryz.underlying134 rfl sz_134 rfl (csS M1 ⟨rfl, rfl, rfl, rfl, rfl, rfl, trivial⟩)) (List.nil_sublist _) (⟨by (rw [foundD_no (by omega) hi2]; rfl), rfl, rfl⟩)
theorem dg_New {a b c d key : Int} : Fn Tryz.prog 101 [.agg #[.int .i64 a, .int .i64 b, .int .i64 c, .int .i64 d], .int .i64 key] ([]) ([]) (fun v N H => ∃ bg bw, v = .pointer (some ⟨bg, 0, none⟩) ∧ N = [dgB bg a b c d key bw none false, dwB bw (⟨a, b, c, d, key, 1, 0, 0, 0, 0⟩ : Dw)] ∧ H = []) := by
 refine Fn.enter Tryz.func101 (by kernel_rfl) rfl (n := 12) rfl rfl (fun w => ?_)
 refine W ?_
 refine At.box rfl rfl rfl (.t rfl) (fun b1 hb1 => ⟨.all, ?_⟩)
 refine W ?_
 refine At.drawK [tt 0, tt 1, tt 2, tt 3, ff 4, tt 5, ff 6, tt 7] (by kernel_rfl) (by kernel_rfl) ?_
 refine W ?_
 refine At.callP (fst := []) (cap := []) rfl rfl rfl Ev.f (.k rfl (.k rfl .nil)) rfl (dw_New (a := a) (b := b) (c := c) (d := d) (key := key)) (fun _ h => nomatch h) (fun v N1 H1 hR => ?_); obtain ⟨bw, rfl, rfl, rfl⟩ := hR; refine ⟨rfl, kz, ?_⟩
 refine sC rfl kz (R.build bt_156 (.k rfl (.k rfl (.k rfl .nil))) (.cons rfl (.cons rfl (.cons rfl .nil))) rfl) ?_
 refine At.box rfl rfl rfl (.t rfl) (fun b2 hb2 => ⟨kz, ?_⟩)
 refine W ?_
 exact At.final (N' := [dgB b2 a b c d key bw none false, dwB bw (⟨a, b, c, d, key, 1, 0, 0, 0, 0⟩ : Dw)]) rfl (.t rfl) sl (⟨b2, bw, rfl, rfl, rfl⟩)
theorem dg_StepW {bg bw ba n : Nat} {wv : Value} {a b c d key : Int} {x : Dw} {r : Rr} (hx : x.ok) (hn : r.w.length = n) (hN : n ≤ 1000000) (hf : r.few) (hw : r.mid 1152921504606846976) (hg : ¬ (x.step r).1.line = 0) : FnX Tryz.prog 104 [.pointer (some ⟨bg, 0, none⟩), .pointer (some ⟨ba, 0, none⟩)] ([]) ([dgB bg a b c d key bw none false, dwB bw x, raB ba wv r, raW wv n r]) (fun v N => v = .bool false ∧ N = [dgB bg a b c d key bw none false, dwB bw (x.step r).1, raB ba wv (x.step r).2, raW wv n (x.step r).2]) := by
 refine FnX.enter Tryz.func104 (by kernel_rfl) rfl (n := 59) rfl rfl (fun w df hds how => ?_)
 refine W ?_
 refine eA rfl (R.neqNilP Tryz.underlying52 (.t rfl)) ?_
 refine W ?_
 refine At.callM (fst := []) (cap := []) rfl rfl rfl Ev.f (.k rfl (.k rfl .nil)) rfl (.n (.skip (.take (.take (.take .nil))))) .nil (dw_Step (x := x) (r := r) hx hn hN hf hw) keysDw .nil ⟨.all, ?_⟩
 refine W ?_
 refine At.condD (.t rfl) (fun c3 => ?_) (fun c3 => ?_)
 ·
  exact absurd (by simpa using c3) hg
 ·
  refine W ?_
  exact At.finalX (N' := [dgB bg a b c d key bw none false, dwB bw (x.step r).1, raB ba wv (x.step r).2, raW wv n (x.step r).2]) hds how rfl (.t rfl) (List.Sublist.refl _) (⟨rfl, rfl⟩)
theorem dg_StepE {bg bw ba n : Nat} {wv : Value} {a b c d key : Int} {x : Dw} {r : Rr} (hx : x.ok) (hn : r.w.length = n) (hN : n ≤ 1000000) (hf : r.few) (hw : r.mid 1152921504606846976) (hg : (x.step r).1.line = 0) : FnX Tryz.prog 104 [.pointer (some ⟨bg, 0, none⟩), .pointer (some ⟨ba, 0, none⟩)] ([]) ([dgB bg a b c d key bw none false, dwB bw x, raB ba wv r, raW wv n r]) (fun v N => ∃ bl, v = .bool false ∧ N = [dgB bg a b c d key bw (some bl) false, dwB bw (x.step r).1, dlB bl (.slice none 0 0) (⟨a, b, c, d, (x.step r).1.at_, key, key, 1073741824, 1, 0, 0, 0, 0, 0, []⟩ : Dl), rowE iK 43 (.slice none 0 0) [], raB ba wv (x.step r).2, raW wv n (x.step r).2]) := by
 refine FnX.enter Tryz.func104 (by kernel_rfl) rfl (n := 59) rfl rfl (fun w df hds how => ?_)
 refine W ?_
 refine eA rfl (R.neqNilP Tryz.underlying52 (.t rfl)) ?_
 refine W ?_
 refine At.callM (fst := []) (cap := []) rfl rfl rfl Ev.f (.k rfl (.k rfl .nil)) rfl (.n (.skip (.take (.take (.take .nil))))) .nil (dw_Step (x := x) (r := r) hx hn hN hf hw) keysDw .nil ⟨.all, ?_⟩
 refine W ?_
 refine At.condD (.t rfl) (fun c3 => ?_) (fun c3 => ?_)
 ·
  refine At.drawM ([dgB bg a b c d key bw none false, dwB bw (x.step r).1]) ([]) [tt 0, tt 1, tt 2, tt 3, tt 5, tt 6, tt 7, tt 12, tt 13, tt 14, tt 16, tt 17, tt 18] [tt 4, tt 8, tt 9, tt 10, tt 11, tt 15, tt 19, ff 20] [tt 21, tt 22, ff 23] (keepOf sl) (fun _ h => nomatch h) (by kernel_rfl) (by kernel_rfl) ?_
  refine V ?_
  refine At.stage kz ?_
  refine W ?_
  refine At.callP (fst := []) (cap := []) rfl rfl rfl Ev.f (.k rfl (.k rfl (.k rfl (.k rfl (.kc .nil))))) rfl (dl_New (a := a) (b := b) (c := c) (d := d) (chunk := (x.step r).1.at_) (lo := key) (hi := key)) (fun _ h => nomatch h) (fun v N1 H1 hR => ?_); obtain ⟨bl, rfl, rfl, rfl⟩ := hR; refine ⟨rfl, kz, ?_⟩
  refine At.stage Cl.none ?_
  refine W ?_
  refine At.st1 rfl rfl sz_52 (.t rfl) (.t rfl) rfl rfl (.n U2) ⟨Cl.none, ?_⟩
  refine W ?_
  refine At.perm (N' := [dgB bg a b c d key bw (some bl) false, dwB bw (x.step r).1, dlB bl (.slice none 0 0) (⟨a, b, c, d, (x.step r).1.at_, key, key, 1073741824, 1, 0, 0, 0, 0, 0, []⟩ : Dl), rowE iK 43 (.slice none 0 0) [], raB ba wv (x.step r).2, raW wv n (x.step r).2]) (List.perm_append_comm (l₁ := [_, _]) (l₂ := [_, _]) |>.append_right [_, _]) ?_
  exact At.finalX (N' := [dgB bg a b c d key bw (some bl) false, dwB bw (x.step r).1, dlB bl (.slice none 0 0) (⟨a, b, c, d, (x.step r).1.at_, key, key, 1073741824, 1, 0, 0, 0, 0, 0, []⟩ : Dl), rowE iK 43 (.slice none 0 0) [], raB ba wv (x.step r).2, raW wv n (x.step r).2]) hds how rfl (.t rfl) (List.Sublist.refl _) (⟨bl, rfl, rfl⟩)
 ·
  exact absurd hg (by simpa using c3)
theorem dg_StepL {bg bw bl ba n : Nat} {wv Lv : Value} {a b c d key : Int} {y : Dl} {u : Dw} {r : Rr} (hx : y.ok) (hL : y.l.length ≤ 10000) (hn : r.w.length = n) (hN : n ≤ 1000000) (hf : r.few) (hw : r.mid 1152921504606846976) : FnX Tryz.prog 104 [.pointer (some ⟨bg, 0, none⟩), .pointer (some ⟨ba, 0, none⟩)] ([]) ([dgB bg a b c d key bw (some bl) false, dwB bw u, dlB bl Lv y, rowE iK 43 Lv y.l, raB ba wv r, raW wv n r]) (fun v N => ∃ Lv2, v = .bool (decide ((y.step r).1.line = 0)) ∧ N = [dgB bg a b c d key bw (some bl) (decide ((y.step r).1.line = 0)), dwB bw u, dlB bl Lv2 (y.step r).1, rowE iK 43 Lv2 (y.step r).1.l, raB ba wv (y.step r).2, raW wv n (y.step r).2]) := by
 refine FnX.enter Tryz.func104 (by kernel_rfl) rfl (n := 59) rfl rfl (fun w df hds how => ?_)
 refine W ?_
 refine eA rfl (R.neqNilP Tryz.underlying52 (.t rfl)) ?_
 refine W ?_
 refine At.callX (fst := []) (cap := []) rfl rfl rfl Ev.f (.k rfl (.k rfl .nil)) rfl (.skip (.skip .all)) .nil (dl_Step (x := y) (r := r) hx hL hn hN hf hw) Aprt.nil (fun v B hR => ⟨.all, ?_⟩); obtain ⟨Lv2, rfl, rfl⟩ := hR; refine At.perm (N' := [dgB bg a b c d key bw (some bl) false, dwB bw u, dlB bl Lv2 (y.step r).1, rowE iK 43 Lv2 (y.step r).1.l, raB ba wv (y.step r).2, raW wv n (y.step r).2]) (List.perm_append_comm (l₁ := [_, _, _, _]) (l₂ := [_, _])) ?_
 refine W ?_
 refine At.st1 rfl rfl sz_4 (.t rfl) (.t rfl) rfl rfl (.n U0) ⟨.all, ?_⟩
 refine W ?_
 exact At.finalX (N' := [dgB bg a b c d key bw (some bl) (decide ((y.step r).1.line = 0)), dwB bw u, dlB bl Lv2 (y.step r).1, rowE iK 43 Lv2 (y.step r).1.l, raB ba wv (y.step r).2, raW wv n (y.step r).2]) hds how rfl (.t rfl) (List.Sublist.refl _) (⟨Lv2, rfl, rfl⟩)
theorem dg_StepO {bg bw ba n : Nat} {wv lv : Value} {a b c d key : Int} {ll : Option Nat} {r : Rr} : Fn Tryz.prog 104 [.pointer (some ⟨bg, 0, none⟩), .pointer (some ⟨ba, 0, none⟩)] ([]) ([dgB bg a b c d key bw ll true]) (IsM (.bool true) [dgB bg a b c d key bw ll true]) := by
 refine Fn.enter Tryz.func104 (by kernel_rfl) rfl (n := 59) rfl rfl (fun w => ?_)
 refine W ?_
 exact At.final rfl (.t rfl) (List.nil_sublist _) (⟨rfl, rfl, rfl⟩)
theorem dg_Answer1 {bg bw bl : Nat} {Lv : Value} {a b c d key : Int} {y : Dl} (hL : y.l.length ≤ 1000000) : Fn Tryz.prog 105 [.pointer (some ⟨bg, 0, none⟩)] ([dgB bg a b c d key bw (some bl) true, dlB bl Lv y, rdE iK Lv y.l]) ([]) (IsV (.agg (anV (foundD y.l key) (.slice none 0 0)))) := by
 refine Fn.enter Tryz.func105 (by kernel_rfl) rfl (n := 21) rfl rfl (fun w => ?_)
 refine W ?_
 refine At.alloc rfl rfl rfl ze_134 (fun b1 hb1 => ⟨.all, ?_⟩)
 refine W ?_
 refine eA rfl (R.not (.t rfl)) ?_
 refine W ?_
 refine At.drawM ([dgB bg a b c d key bw (some bl) true, dlB bl Lv y, rdE iK Lv y.l]) ([]) [tt 0, tt 1, tt 2, tt 7, tt 8, tt 9] [tt 3, tt 4, tt 5, tt 6, tt 10, ff 11] [ff 12] (keepOf sl) (fun _ h => nomatch h) (by kernel_rfl) (by kernel_rfl) ?_
 refine V ?_
 refine At.stage kz ?_
 refine W ?_
 refine At.callVR rfl rfl rfl (.k rfl (.k rfl .nil)) (by (exact .cons (rS M2) .nil)) (fun hg => dg_Found (v := Lv) (l := y.l) (key := key) hL) kz ?_
 refine At.stage Cl.none ?_
 refine At.stAll (vs := (anV (foundD y.l key) (.slice none 0 0)).toList) rfl rfl sz_134 (.t rfl) (.t rfl) rfl rfl rfl (.n U0) ⟨Cl.none, ?_⟩
 refine W ?_
 exact At.final rfl (.a (vs := [_, _, _, _, _, _]) Tryz.underlying134 rfl sz_134 rfl (csS M3 ⟨rfl, rfl, rfl, rfl, rfl, rfl, trivial⟩)) (List.nil_sublist _) (⟨rfl, rfl, rfl⟩)
theorem dg_Answer0 {bg bw : Nat} {a b c d key : Int} {ll : Option Nat} : Fn Tryz.prog 105 [.pointer (some ⟨bg, 0, none⟩)] ([dgB bg a b c d key bw ll false]) ([]) (IsV (.agg (anV ⟨0, false, 0, 0, 0⟩ (.slice none 0 0)))) := by
 refine Fn.enter Tryz.func105 (by kernel_rfl) rfl (n := 21) rfl rfl (fun w => ?_)
 refine W ?_
 refine At.alloc rfl rfl rfl ze_134 (fun b1 hb1 => ⟨.all, ?_⟩)
 refine W ?_
 refine eA rfl (R.not (.t rfl)) ?_
 refine W ?_
 refine eA rfl (R.build bt_134 .nil .nil rfl) ?_
 refine At.stAll (vs := [.int .i64 0, .bool false, .int .i64 0, .int .i64 0, .int .i64 0, .slice none 0 0]) rfl rfl sz_134 (.t rfl) (.t rfl) rfl rfl rfl (.n U0) ⟨.all, ?_⟩
 refine W ?_
 exact At.final rfl (.a (vs := [_, _, _, _, _, _]) Tryz.underlying134 rfl sz_134 rfl (csS M1 ⟨rfl, rfl, rfl, rfl, rfl, rfl, trivial⟩)) (List.nil_sublist _) (⟨rfl, rfl, rfl⟩)
end Go.Proofs.YtbolanigdkgbdaaGreat
namespace Go.Proofs.YtbolanigdkgbdaaGreat
open Go Go.RowKit
set_option maxRecDepth 10000
set_option linter.unusedVariables false
set_option maxHeartbeats 1000000
theorem bt_196 : buildTab Tryz.prog 196 = some (#[.int .i64 0, .int .i64 0, .int .i64 0, .int .i64 0, .int .i64 0, .bool false, .bool false, .int .i64 0, .int .i64 0, .int .i64 0, .int .i64 0, .int .i64 0, .bool false, .int .i64 0], [(0, 4), (4, 1), (5, 1), (6, 1), (7, 1), (8, 1), (9, 1), (10, 1), (11, 1), (12, 1), (13, 1)]) := by kernel_rfl
structure Dd where
  th : Int
  cap : Int
  wd : Int
  ver : Int
  chunk : Int
  draw : Bool
  drew : Bool
  line : Int
  l : Int
  n : Int
  w : Int
  mate : Int
  alone : Bool
  after : Int
abbrev ddC (x : Dd) : Array Value := #[.int .i64 x.th, .int .i64 x.cap, .int .i64 x.wd, .int .i64 x.ver, .int .i64 x.chunk, .bool x.draw, .bool x.drew, .int .i64 x.line, .int .i64 x.l, .int .i64 x.n, .int .i64 x.w, .int .i64 x.mate, .bool x.alone, .int .i64 x.after]
abbrev ddB (b : Nat) (x : Dd) : Ent := .blk b (.cells (ddC x) 196)
structure Dd.ok (x : Dd) : Prop where
  chunk : -1152921504606846976 ≤ x.chunk ∧ x.chunk ≤ 1152921504606846976
  ll : -1152921504606846976 ≤ x.l ∧ x.l ≤ 1152921504606846976
  nn : -1152921504606846976 ≤ x.n ∧ x.n ≤ 1152921504606846976
  ww : -1152921504606846976 ≤ x.w ∧ x.w ≤ 1152921504606846976
abbrev Dd.alon (x : Dd) : Dd := (⟨x.th, x.cap, x.wd, x.ver, x.chunk, x.draw, x.drew, 0, x.l, x.n, x.w, x.mate, true, x.n⟩ : Dd)
def Dd.eight (x : Dd) : Dd := if x.mate = 1 ∨ x.n = 0 then Dd.alon (⟨x.th, x.cap, x.wd, x.ver, x.chunk, x.draw, x.drew, 8, x.l, x.n, x.w, x.mate, x.alone, x.after⟩ : Dd) else (⟨x.th, x.cap, x.wd, x.ver, x.chunk, x.draw, x.drew, 8, x.l, x.n, x.w, x.mate, x.alone, x.after⟩ : Dd)
def Dd.ch1 (x : Dd) : Int := if x.line = 0 then x.l else 0
def Dd.ch2 (x : Dd) : Int := if x.line = 0 then if x.alone = true then 0 else x.n else 0
def Dd.ch3 (x : Dd) : Int := if x.line = 0 then x.after else 0
theorem keysDd {b ba n : Nat} {wv : Value} {k k' : Dd} {x y x' y' : Rr} : keys [ddB b k, raB ba wv x, raW wv n y] = keys [ddB b k', raB ba wv x', raW wv n y'] := rfl
def Dd.more (x : Dd) (r : Rr) : Dd × Rr :=
  if x.line = 8 then ((⟨x.th, x.cap, x.wd, x.ver, x.chunk, x.draw, x.drew, 9, x.l, x.n, x.w, x.mate, x.alone, x.after⟩ : Dd), r.swap (x.n + 3) 0 x.l)
  else if x.line = 9 then if ¬ r.peek (x.n + 3) = x.l then ((⟨x.th, x.cap, x.wd, x.ver, x.chunk, x.draw, x.drew, 10, x.l, x.n, x.w, x.mate, x.alone, x.after⟩ : Dd).alon, r.load (x.n + 3)) else ((⟨x.th, x.cap, x.wd, x.ver, x.chunk, x.draw, x.drew, 10, x.l, x.n, x.w, x.mate, x.alone, x.after⟩ : Dd), r.load (x.n + 3))
  else if x.line = 10 then if (r.peek (x.n + 2)) % 2 = 1 then ((⟨x.th, x.cap, x.wd, x.ver, x.chunk, x.draw, x.drew, 0, x.l, x.n, (r.peek (x.n + 2)), x.mate, x.alone, ((r.peek (x.n + 2)) / 2)⟩ : Dd), r.load (x.n + 2)) else ((⟨x.th, x.cap, x.wd, x.ver, x.chunk, x.draw, x.drew, 11, x.l, x.n, (r.peek (x.n + 2)), x.mate, x.alone, x.after⟩ : Dd), r.load (x.n + 2))
  else if x.line = 11 then ((⟨x.th, x.cap, x.wd, x.ver, x.chunk, x.draw, x.drew, 10, x.l, x.n, x.w, x.mate, x.alone, x.after⟩ : Dd), r.swap (x.n + 2) x.w (orOne x.w))
  else (x, r)
theorem Dd.more_8 {x : Dd} {r : Rr} (h : x.line = 8)  : Dd.more x r = ((⟨x.th, x.cap, x.wd, x.ver, x.chunk, x.draw, x.drew, 9, x.l, x.n, x.w, x.mate, x.alone, x.after⟩ : Dd), r.swap (x.n + 3) 0 x.l) := by unfold Dd.more; rw [if_pos h]
theorem Dd.more_9a {x : Dd} {r : Rr} (h : x.line = 9) (h0 : ¬ r.peek (x.n + 3) = x.l) : Dd.more x r = ((⟨x.th, x.cap, x.wd, x.ver, x.chunk, x.draw, x.drew, 10, x.l, x.n, x.w, x.mate, x.alone, x.after⟩ : Dd).alon, r.load (x.n + 3)) := by unfold Dd.more; rw [if_neg (by omega), if_pos h, if_pos h0]
theorem Dd.more_9b {x : Dd} {r : Rr} (h : x.line = 9) (h0 : ¬ (¬ r.peek (x.n + 3) = x.l)) : Dd.more x r = ((⟨x.th, x.cap, x.wd, x.ver, x.chunk, x.draw, x.drew, 10, x.l, x.n, x.w, x.mate, x.alone, x.after⟩ : Dd), r.load (x.n + 3)) := by unfold Dd.more; rw [if_neg (by omega), if_pos h, if_neg h0]
theorem Dd.more_10a {x : Dd} {r : Rr} (h : x.line = 10) (h0 : (r.peek (x.n + 2)) % 2 = 1) : Dd.more x r = ((⟨x.th, x.cap, x.wd, x.ver, x.chunk, x.draw, x.drew, 0, x.l, x.n, (r.peek (x.n + 2)), x.mate, x.alone, ((r.peek (x.n + 2)) / 2)⟩ : Dd), r.load (x.n + 2)) := by unfold Dd.more; rw [if_neg (by omega), if_neg (by omega), if_pos h, if_pos h0]
theorem Dd.more_10b {x : Dd} {r : Rr} (h : x.line = 10) (h0 : ¬ ((r.peek (x.n + 2)) % 2 = 1)) : Dd.more x r = ((⟨x.th, x.cap, x.wd, x.ver, x.chunk, x.draw, x.drew, 11, x.l, x.n, (r.peek (x.n + 2)), x.mate, x.alone, x.after⟩ : Dd), r.load (x.n + 2)) := by unfold Dd.more; rw [if_neg (by omega), if_neg (by omega), if_pos h, if_neg h0]
theorem Dd.more_11 {x : Dd} {r : Rr} (h : x.line = 11)  : Dd.more x r = ((⟨x.th, x.cap, x.wd, x.ver, x.chunk, x.draw, x.drew, 10, x.l, x.n, x.w, x.mate, x.alone, x.after⟩ : Dd), r.swap (x.n + 2) x.w (orOne x.w)) := by unfold Dd.more; rw [if_neg (by omega), if_neg (by omega), if_neg (by omega), if_pos h]
theorem Dd.more_o {x : Dd} {r : Rr} (h8 : ¬ x.line = 8) (h9 : ¬ x.line = 9) (h10 : ¬ x.line = 10) (h11 : ¬ x.line = 11) : Dd.more x r = (x, r) := by unfold Dd.more; rw [if_neg h8, if_neg h9, if_neg h10, if_neg h11]
def Dd.step (x : Dd) (r : Rr) : Dd × Rr :=
  if x.line = 1 then ((⟨x.th, x.cap, x.wd, x.ver, x.chunk, x.draw, x.drew, 2, x.l, x.n, x.w, x.mate, x.alone, x.after⟩ : Dd), r.swap (x.chunk + 3) 0 x.chunk)
  else if x.line = 2 then ((⟨x.th, x.cap, x.wd, x.ver, x.chunk, x.draw, x.drew, 3, (r.peek (x.chunk + 3)), x.n, x.w, x.mate, x.alone, x.after⟩ : Dd), r.load (x.chunk + 3))
  else if x.line = 3 then if (r.peek (x.l + 2)) % 2 = 1 then ((⟨x.th, x.cap, x.wd, x.ver, x.chunk, x.draw, x.drew, 5, x.l, ((r.peek (x.l + 2)) / 2), (r.peek (x.l + 2)), x.mate, x.alone, x.after⟩ : Dd), r.load (x.l + 2)) else ((⟨x.th, x.cap, x.wd, x.ver, x.chunk, x.draw, x.drew, 4, x.l, x.n, (r.peek (x.l + 2)), x.mate, x.alone, x.after⟩ : Dd), r.load (x.l + 2))
  else if x.line = 4 then ((⟨x.th, x.cap, x.wd, x.ver, x.chunk, x.draw, x.drew, 3, x.l, x.n, x.w, x.mate, x.alone, x.after⟩ : Dd), r.swap (x.l + 2) x.w (orOne x.w))
  else if x.line = 5 then if ¬ (r.peek (x.l + 4)) = 0 then ((⟨x.th, x.cap, x.wd, x.ver, x.chunk, x.draw, x.drew, 6, x.l, x.n, x.w, (r.peek (x.l + 4)), x.alone, x.after⟩ : Dd).eight, r.load (x.l + 4)) else ((⟨x.th, x.cap, x.wd, x.ver, x.chunk, x.draw, x.drew, 6, x.l, x.n, x.w, (r.peek (x.l + 4)), x.alone, x.after⟩ : Dd), r.load (x.l + 4))
  else if x.line = 6 then if x.draw = true ∧ ¬ x.n = 0 then ((⟨x.th, x.cap, x.wd, x.ver, x.chunk, x.draw, true, 7, x.l, x.n, x.w, x.mate, x.alone, x.after⟩ : Dd), r.swap (x.l + 4) 0 x.n) else ((⟨x.th, x.cap, x.wd, x.ver, x.chunk, x.draw, true, 7, x.l, x.n, x.w, x.mate, x.alone, x.after⟩ : Dd), r.swap (x.l + 4) 0 1)
  else if x.line = 7 then ((⟨x.th, x.cap, x.wd, x.ver, x.chunk, x.draw, x.drew, x.line, x.l, x.n, x.w, (r.peek (x.l + 4)), x.alone, x.after⟩ : Dd).eight, r.load (x.l + 4))
  else x.more r
theorem Dd.step_1 {x : Dd} {r : Rr} (h : x.line = 1)  : Dd.step x r = ((⟨x.th, x.cap, x.wd, x.ver, x.chunk, x.draw, x.drew, 2, x.l, x.n, x.w, x.mate, x.alone, x.after⟩ : Dd), r.swap (x.chunk + 3) 0 x.chunk) := by unfold Dd.step; rw [if_pos h]
theorem Dd.step_2 {x : Dd} {r : Rr} (h : x.line = 2)  : Dd.step x r = ((⟨x.th, x.cap, x.wd, x.ver, x.chunk, x.draw, x.drew, 3, (r.peek (x.chunk + 3)), x.n, x.w, x.mate, x.alone, x.after⟩ : Dd), r.load (x.chunk + 3)) := by unfold Dd.step; rw [if_neg (by omega), if_pos h]
theorem Dd.step_3a {x : Dd} {r : Rr} (h : x.line = 3) (h0 : (r.peek (x.l + 2)) % 2 = 1) : Dd.step x r = ((⟨x.th, x.cap, x.wd, x.ver, x.chunk, x.draw, x.drew, 5, x.l, ((r.peek (x.l + 2)) / 2), (r.peek (x.l + 2)), x.mate, x.alone, x.after⟩ : Dd), r.load (x.l + 2)) := by unfold Dd.step; rw [if_neg (by omega), if_neg (by omega), if_pos h, if_pos h0]
theorem Dd.step_3b {x : Dd} {r : Rr} (h : x.line = 3) (h0 : ¬ ((r.peek (x.l + 2)) % 2 = 1)) : Dd.step x r = ((⟨x.th, x.cap, x.wd, x.ver, x.chunk, x.draw, x.drew, 4, x.l, x.n, (r.peek (x.l + 2)), x.mate, x.alone, x.after⟩ : Dd), r.load (x.l + 2)) := by unfold Dd.step; rw [if_neg (by omega), if_neg (by omega), if_pos h, if_neg h0]
theorem Dd.step_4 {x : Dd} {r : Rr} (h : x.line = 4)  : Dd.step x r = ((⟨x.th, x.cap, x.wd, x.ver, x.chunk, x.draw, x.drew, 3, x.l, x.n, x.w, x.mate, x.alone, x.after⟩ : Dd), r.swap (x.l + 2) x.w (orOne x.w)) := by unfold Dd.step; rw [if_neg (by omega), if_neg (by omega), if_neg (by omega), if_pos h]
theorem Dd.step_5a {x : Dd} {r : Rr} (h : x.line = 5) (h0 : ¬ (r.peek (x.l + 4)) = 0) : Dd.step x r = ((⟨x.th, x.cap, x.wd, x.ver, x.chunk, x.draw, x.drew, 6, x.l, x.n, x.w, (r.peek (x.l + 4)), x.alone, x.after⟩ : Dd).eight, r.load (x.l + 4)) := by unfold Dd.step; rw [if_neg (by omega), if_neg (by omega), if_neg (by omega), if_neg (by omega), if_pos h, if_pos h0]
theorem Dd.step_5b {x : Dd} {r : Rr} (h : x.line = 5) (h0 : ¬ (¬ (r.peek (x.l + 4)) = 0)) : Dd.step x r = ((⟨x.th, x.cap, x.wd, x.ver, x.chunk, x.draw, x.drew, 6, x.l, x.n, x.w, (r.peek (x.l + 4)), x.alone, x.after⟩ : Dd), r.load (x.l + 4)) := by unfold Dd.step; rw [if_neg (by omega), if_neg (by omega), if_neg (by omega), if_neg (by omega), if_pos h, if_neg h0]
theorem Dd.step_6a {x : Dd} {r : Rr} (h : x.line = 6) (h0 : x.draw = true ∧ ¬ x.n = 0) : Dd.step x r = ((⟨x.th, x.cap, x.wd, x.ver, x.chunk, x.draw, true, 7, x.l, x.n, x.w, x.mate, x.alone, x.after⟩ : Dd), r.swap (x.l + 4) 0 x.n) := by unfold Dd.step; rw [if_neg (by omega), if_neg (by omega), if_neg (by omega), if_neg (by omega), if_neg (by omega), if_pos h, if_pos h0]
theorem Dd.step_6b {x : Dd} {r : Rr} (h : x.line = 6) (h0 : ¬ (x.draw = true ∧ ¬ x.n = 0)) : Dd.step x r = ((⟨x.th, x.cap, x.wd, x.ver, x.chunk, x.draw, true, 7, x.l, x.n, x.w, x.mate, x.alone, x.after⟩ : Dd), r.swap (x.l + 4) 0 1) := by unfold Dd.step; rw [if_neg (by omega), if_neg (by omega), if_neg (by omega), if_neg (by omega), if_neg (by omega), if_pos h, if_neg h0]
theorem Dd.step_7 {x : Dd} {r : Rr} (h : x.line = 7)  : Dd.step x r = ((⟨x.th, x.cap, x.wd, x.ver, x.chunk, x.draw, x.drew, x.line, x.l, x.n, x.w, (r.peek (x.l + 4)), x.alone, x.after⟩ : Dd).eight, r.load (x.l + 4)) := by unfold Dd.step; rw [if_neg (by omega), if_neg (by omega), if_neg (by omega), if_neg (by omega), if_neg (by omega), if_neg (by omega), if_pos h]
theorem Dd.step_o {x : Dd} {r : Rr} (h1 : ¬ x.line = 1) (h2 : ¬ x.line = 2) (h3 : ¬ x.line = 3) (h4 : ¬ x.line = 4) (h5 : ¬ x.line = 5) (h6 : ¬ x.line = 6) (h7 : ¬ x.line = 7) : Dd.step x r = x.more r := by unfold Dd.step; rw [if_neg h1, if_neg h2, if_neg h3, if_neg h4, if_neg h5, if_neg h6, if_neg h7]
theorem dd_New {a b c d chunk : Int} {dr : Bool} : Fn Tryz.prog 175 [.agg #[.int .i64 a, .int .i64 b, .int .i64 c, .int .i64 d], .int .i64 chunk, .bool dr] ([]) ([]) (fun v N H => ∃ b1, v = .pointer (some ⟨b1, 0, none⟩) ∧ N = [ddB b1 (⟨a, b, c, d, chunk, dr, false, 1, 0, 0, 0, 0, false, 0⟩ : Dd)] ∧ H = []) := by
 refine Fn.enter Tryz.func175 (by kernel_rfl) rfl (n := 12) rfl rfl (fun w => ?_)
 refine W ?_
 refine At.box rfl rfl rfl (.t rfl) (fun b1 hb1 => ⟨.all, ?_⟩)
 refine W ?_
 refine eA rfl (R.build bt_196 (.k rfl (.k rfl (.k rfl (.kc .nil)))) (.cons rfl (.cons rfl (.cons rfl (.cons rfl .nil)))) rfl) ?_
 refine At.box rfl rfl rfl (.t rfl) (fun b2 hb2 => ⟨.all, ?_⟩)
 refine W ?_
 exact At.final (N' := [ddB b2 (⟨a, b, c, d, chunk, dr, false, 1, 0, 0, 0, 0, false, 0⟩ : Dd)]) rfl (.t rfl) sl (⟨b2, rfl, rfl, rfl⟩)
theorem dd_alone {b : Nat} {x : Dd} : Fn Tryz.prog 177 [.pointer (some ⟨b, 0, none⟩)] ([]) ([ddB b x]) (IsM (.tuple #[]) [ddB b x.alon]) := by
 refine Fn.enter Tryz.func177 (by kernel_rfl) rfl (n := 15) rfl rfl (fun w => ?_)
 refine W ?_
 refine At.st1 rfl rfl sz_4 (.t rfl) .c rfl rfl (.h U0) ⟨.all, ?_⟩
 refine W ?_
 refine At.st1 rfl rfl sz_3 (.t rfl) (.t rfl) rfl rfl (.h U0) ⟨.all, ?_⟩
 refine W ?_
 refine At.st1 rfl rfl sz_3 (.t rfl) .c rfl rfl (.h U0) ⟨.all, ?_⟩
 refine W ?_
 exact At.final0 rfl (List.nil_sublist _) (⟨rfl, rfl, rfl⟩) _ (.inr rfl)
theorem dd_eight {b : Nat} {x : Dd} : Fn Tryz.prog 162 [.pointer (some ⟨b, 0, none⟩)] ([]) ([ddB b x]) (IsM (.tuple #[]) [ddB b x.eight]) := by
 refine Fn.enter Tryz.func162 (by kernel_rfl) rfl (n := 19) rfl rfl (fun w => ?_)
 refine W ?_
 refine At.st1 rfl rfl sz_3 (.t rfl) .c rfl rfl (.h U0) ⟨.all, ?_⟩
 refine W ?_
 refine eA rfl (R.eql (.t rfl) .c) ?_
 refine W ?_
 refine eA rfl (R.eql (.s rfl) .c) ?_
 refine W ?_
 refine At.cond (.t rfl) (fun c1 => ?_) (fun c1 => ?_)
 ·
  refine W ?_
  refine At.callM (fst := []) (cap := []) rfl rfl rfl Ev.f (.k rfl .nil) rfl (.h (.take .nil)) .nil (dd_alone (x := (⟨x.th, x.cap, x.wd, x.ver, x.chunk, x.draw, x.drew, 8, x.l, x.n, x.w, x.mate, x.alone, x.after⟩ : Dd))) rfl .nil ⟨.all, ?_⟩
  refine W ?_
  exact At.final0 rfl (List.nil_sublist _) (⟨rfl, rfl, by unfold Dd.eight; (rw [if_pos (by simp at c1; omega)]; done)⟩) _ (.inr rfl)
 ·
  refine W ?_
  exact At.final0 rfl (List.nil_sublist _) (⟨rfl, rfl, by unfold Dd.eight; (rw [if_neg (by simp at c1; omega)]; rfl)⟩) _ (.inr rfl)
theorem dd_more {b ba n : Nat} {wv : Value} {x : Dd} {r : Rr} (hx : x.ok) (hn : r.w.length = n) (hN : n ≤ 1000000) (hf : r.few) (hw : r.mid 1152921504606846976) : Fn Tryz.prog 163 [.pointer (some ⟨b, 0, none⟩), .pointer (some ⟨ba, 0, none⟩)] ([]) ([ddB b x, raB ba wv r, raW wv n r]) (IsM (.tuple #[]) [ddB b (x.more r).1, raB ba wv (x.more r).2, raW wv n (x.more r).2]) := by
 refine Fn.enter Tryz.func163 (by kernel_rfl) rfl (n := 95) rfl rfl (fun w => ?_)
 have hx0 := hx
 obtain ⟨hx1, hx2, hx3, hx4⟩ := hx
 refine W ?_
 refine eA rfl (R.eql (.t rfl) .c) ?_
 refine W ?_
 refine At.condD (.t rfl) (fun c1 => ?_) (fun c1 => ?_)
 ·
  have hl8 : x.line = 8 := (by simpa using c1); have hst := Dd.more_8 (r := r) hl8 
  refine W ?_
  refine At.drawL ([ddB b x]) [tt 0, tt 1, tt 2, tt 3, tt 4, tt 5, tt 6, tt 7, tt 8, tt 9] [] [ff 10] (keepOf sl) (by kernel_rfl) (by kernel_rfl) ?_
  refine V ?_
  refine At.stage kI ?_
  refine At.stage kz ?_
  refine At.callM (fst := []) (cap := []) rfl rfl rfl Ev.f (.k rfl (.k rfl (.kc (.k rfl .nil)))) rfl (.h (.skip (.take (.take .nil)))) .nil (r_Swap (r := r) (i := x.n + 3) (o := 0) (x := x.l) hn hN hf) keysRa .nil ⟨kz, ?_⟩
  refine W ?_
  refine At.st1 rfl rfl sz_3 (.t rfl) .c rfl rfl (.h U0) ⟨.all, ?_⟩
  refine W ?_
  exact At.final0 rfl (List.nil_sublist _) (⟨rfl, rfl, by (rw [hst]; rfl)⟩) _ (.inr rfl)
 ·
  refine W ?_
  refine eA rfl (R.eql (.t rfl) .c) ?_
  refine W ?_
  refine At.condD (.t rfl) (fun c2 => ?_) (fun c2 => ?_)
  ·
   have hl9 : x.line = 9 := (by simpa using c2)
   refine W ?_
   refine At.st1 rfl rfl sz_3 (.t rfl) .c rfl rfl (.h U0) ⟨.all, ?_⟩
   refine W ?_
   refine At.reH (H' := [ddB b (⟨x.th, x.cap, x.wd, x.ver, x.chunk, x.draw, x.drew, 10, x.l, x.n, x.w, x.mate, x.alone, x.after⟩ : Dd), raB ba wv r, raW wv n r]) rfl ?_
   have hq : (⟨x.th, x.cap, x.wd, x.ver, x.chunk, x.draw, x.drew, 10, x.l, x.n, x.w, x.mate, x.alone, x.after⟩ : Dd).n = x.n := rfl
   refine At.drawL ([ddB b (⟨x.th, x.cap, x.wd, x.ver, x.chunk, x.draw, x.drew, 10, x.l, x.n, x.w, x.mate, x.alone, x.after⟩ : Dd)]) [tt 0, tt 1, tt 2, tt 3, tt 4, tt 5, tt 7, tt 8, tt 9, tt 10] [] [ff 6, tt 11] (keepOf sl) (by kernel_rfl) (by kernel_rfl) ?_
   refine V ?_
   refine At.stage kI ?_
   refine At.stage kz ?_
   refine At.callM (fst := []) (cap := []) rfl rfl rfl Ev.f (.k rfl (.k rfl .nil)) rfl (.h (.skip (.take (.take .nil)))) .nil (r_Load (r := r) (i := x.n + 3) hn hN hf) keysRa .nil ⟨kz, ?_⟩
   refine sC rfl kz (R.neq (.t rfl) (.t rfl)) ?_
   refine W ?_
   refine At.condN (.t rfl) (fun c3 => ?_) (fun c3 => ?_)
   ·
    have hst := Dd.more_9a (r := r) hl9 (by simpa using c3)
    refine W ?_
    refine At.callM (fst := []) (cap := []) rfl rfl rfl Ev.f (.k rfl .nil) rfl (.h (.take .nil)) .nil (dd_alone (x := (⟨x.th, x.cap, x.wd, x.ver, x.chunk, x.draw, x.drew, 10, x.l, x.n, x.w, x.mate, x.alone, x.after⟩ : Dd))) rfl .nil ⟨.all, ?_⟩
    refine W ?_
    exact At.final0 rfl (List.nil_sublist _) (⟨rfl, rfl, by (rw [hst]; done)⟩) _ (.inr rfl)
   ·
    have hst := Dd.more_9b (r := r) hl9 (by simpa using c3)
    refine W ?_
    exact At.final0 rfl (List.nil_sublist _) (⟨rfl, rfl, by (rw [hst]; done)⟩) _ (.inr rfl)
  ·
   refine W ?_
   refine eA rfl (R.eql (.t rfl) .c) ?_
   refine W ?_
   refine At.condD (.t rfl) (fun c4 => ?_) (fun c4 => ?_)
   ·
    have hl10 : x.line = 10 := (by simpa using c4)
    refine W ?_
    refine At.callM (fst := []) (cap := []) rfl rfl rfl Ev.f (.k rfl (.k rfl .nil)) rfl (.h (.skip (.take (.take .nil)))) .nil (r_Load (r := r) (i := x.n + 2) hn hN hf) keysRa .nil ⟨.all, ?_⟩
    refine W ?_
    refine At.st1 rfl rfl sz_3 (.t rfl) (.t rfl) rfl rfl (.h U0) ⟨.all, ?_⟩
    refine W ?_
    refine At.st1 rfl rfl sz_3 (.t rfl) .c rfl rfl (.h U0) ⟨.all, ?_⟩
    refine W ?_
    refine At.callVR rfl rfl rfl (.k rfl .nil) (.nil) (fun hg => r_Marked) .all ?_
    refine W ?_
    refine At.condD (.t rfl) (fun c5 => ?_) (fun c5 => ?_)
    ·
     have hst := Dd.more_10a (r := r) hl10 (by simpa using c5)
     refine W ?_
     refine At.callVR rfl rfl rfl (.k rfl .nil) (.nil) (fun hg => r_At) .all ?_
     refine W ?_
     refine At.st1 rfl rfl sz_3 (.t rfl) (.t rfl) rfl rfl (.h U0) ⟨.all, ?_⟩
     refine W ?_
     refine At.st1 rfl rfl sz_3 (.t rfl) .c rfl rfl (.h U0) ⟨.all, ?_⟩
     refine W ?_
     exact At.final0 rfl (List.nil_sublist _) (⟨rfl, rfl, by (rw [hst]; rfl)⟩) _ (.inr rfl)
    ·
     have hst := Dd.more_10b (r := r) hl10 (by simpa using c5)
     refine W ?_
     exact At.final0 rfl (List.nil_sublist _) (⟨rfl, rfl, by (rw [hst]; rfl)⟩) _ (.inr rfl)
   ·
    refine W ?_
    refine eA rfl (R.eql (.t rfl) .c) ?_
    refine W ?_
    refine At.condD (.t rfl) (fun c6 => ?_) (fun c6 => ?_)
    ·
     have hl11 : x.line = 11 := (by simpa using c6); have hst := Dd.more_11 (r := r) hl11 
     refine W ?_
     refine At.drawL ([ddB b x]) [tt 0, tt 1, tt 2, tt 3, tt 4, tt 5, tt 6, tt 7, tt 8, tt 9, tt 10, tt 11, tt 12, tt 13, tt 14] [] [ff 15] (keepOf sl) (by kernel_rfl) (by kernel_rfl) ?_
     refine W ?_
     refine sC rfl kz (R.or1V (.t rfl) gO) ?_
     refine At.stage kI ?_
     refine At.stage kz ?_
     refine At.callM (fst := []) (cap := []) rfl rfl rfl Ev.f (.k rfl (.k rfl (.k rfl (.k rfl .nil)))) rfl (.h (.skip (.take (.take .nil)))) .nil (r_Swap (r := r) (i := x.n + 2) (o := x.w) (x := orOne x.w) hn hN hf) keysRa .nil ⟨kz, ?_⟩
     refine W ?_
     refine At.st1 rfl rfl sz_3 (.t rfl) .c rfl rfl (.h U0) ⟨.all, ?_⟩
     refine W ?_
     exact At.final0 rfl (List.nil_sublist _) (⟨rfl, rfl, by (rw [hst]; rfl)⟩) _ (.inr rfl)
    ·
     have hst := Dd.more_o (r := r) (by simpa using c1) (by simpa using c2) (by simpa using c4) (by simpa using c6)
     refine W ?_
     exact At.final0 rfl (List.nil_sublist _) (⟨rfl, rfl, by (rw [hst]; done)⟩) _ (.inr rfl)
theorem dd_Step {b ba n : Nat} {wv : Value} {x : Dd} {r : Rr} (hx : x.ok) (hn : r.w.length = n) (hN : n ≤ 1000000) (hf : r.few) (hw : r.mid 1152921504606846976) : Fn Tryz.prog 141 [.pointer (some ⟨b, 0, none⟩), .pointer (some ⟨ba, 0, none⟩)] ([]) ([ddB b x, raB ba wv r, raW wv n r]) (IsM (.bool (decide ((x.step r).1.line = 0))) [ddB b (x.step r).1, raB ba wv (x.step r).2, raW wv n (x.step r).2]) := by
 refine Fn.enter Tryz.func141 (by kernel_rfl) rfl (n := 168) rfl rfl (fun w => ?_)
 have hx0 := hx
 obtain ⟨hx1, hx2, hx3, hx4⟩ := hx
 refine W ?_
 refine eA rfl (R.eql (.t rfl) .c) ?_
 refine W ?_
 refine At.condD (.t rfl) (fun c1 => ?_) (fun c1 => ?_)
 ·
  have hl1 : x.line = 1 := (by simpa using c1); have hst := Dd.step_1 (r := r) hl1 
  refine W ?_
  refine At.drawL ([ddB b x]) [tt 0, tt 1, tt 2, tt 3, tt 4, tt 5, tt 6, tt 7, tt 8, tt 9] [] [ff 10] (keepOf sl) (by kernel_rfl) (by kernel_rfl) ?_
  refine V ?_
  refine At.stage kI ?_
  refine At.stage kz ?_
  refine At.callM (fst := []) (cap := []) rfl rfl rfl Ev.f (.k rfl (.k rfl (.kc (.k rfl .nil)))) rfl (.h (.skip (.take (.take .nil)))) .nil (r_Swap (r := r) (i := x.chunk + 3) (o := 0) (x := x.chunk) hn hN hf) keysRa .nil ⟨kz, ?_⟩
  refine W ?_
  refine At.st1 rfl rfl sz_3 (.t rfl) .c rfl rfl (.h U0) ⟨.all, ?_⟩
  refine Y ?_
  exact At.final rfl (.t rfl) (List.nil_sublist _) (⟨by (rw [hst]; rfl), rfl, by (rw [hst]; rfl)⟩)
 ·
  refine W ?_
  refine eA rfl (R.eql (.t rfl) .c) ?_
  refine W ?_
  refine At.condD (.t rfl) (fun c2 => ?_) (fun c2 => ?_)
  ·
   have hl2 : x.line = 2 := (by simpa using c2); have hst := Dd.step_2 (r := r) hl2 
   refine W ?_
   refine At.callM (fst := []) (cap := []) rfl rfl rfl Ev.f (.k rfl (.k rfl .nil)) rfl (.h (.skip (.take (.take .nil)))) .nil (r_Load (r := r) (i := x.chunk + 3) hn hN hf) keysRa .nil ⟨.all, ?_⟩
   refine W ?_
   refine At.st1 rfl rfl sz_3 (.t rfl) (.t rfl) rfl rfl (.h U0) ⟨.all, ?_⟩
   refine W ?_
   refine At.st1 rfl rfl sz_3 (.t rfl) .c rfl rfl (.h U0) ⟨.all, ?_⟩
   refine Y ?_
   exact At.final rfl (.t rfl) (List.nil_sublist _) (⟨by (rw [hst]; rfl), rfl, by (rw [hst]; rfl)⟩)
  ·
   refine W ?_
   refine eA rfl (R.eql (.t rfl) .c) ?_
   refine W ?_
   refine At.condD (.t rfl) (fun c3 => ?_) (fun c3 => ?_)
   ·
    have hl3 : x.line = 3 := (by simpa using c3)
    refine W ?_
    refine At.callM (fst := []) (cap := []) rfl rfl rfl Ev.f (.k rfl (.k rfl .nil)) rfl (.h (.skip (.take (.take .nil)))) .nil (r_Load (r := r) (i := x.l + 2) hn hN hf) keysRa .nil ⟨.all, ?_⟩
    refine W ?_
    refine At.st1 rfl rfl sz_3 (.t rfl) (.t rfl) rfl rfl (.h U0) ⟨.all, ?_⟩
    refine W ?_
    refine At.st1 rfl rfl sz_3 (.t rfl) .c rfl rfl (.h U0) ⟨.all, ?_⟩
    refine W ?_
    refine At.callVR rfl rfl rfl (.k rfl .nil) (.nil) (fun hg => r_Marked) .all ?_
    refine W ?_
    refine At.condD (.t rfl) (fun c4 => ?_) (fun c4 => ?_)
    ·
     have hst := Dd.step_3a (r := r) hl3 (by simpa using c4)
     refine W ?_
     refine At.callVR rfl rfl rfl (.k rfl .nil) (.nil) (fun hg => r_At) .all ?_
     refine W ?_
     refine At.st1 rfl rfl sz_3 (.t rfl) (.t rfl) rfl rfl (.h U0) ⟨.all, ?_⟩
     refine W ?_
     refine At.st1 rfl rfl sz_3 (.t rfl) .c rfl rfl (.h U0) ⟨.all, ?_⟩
     refine Y ?_
     exact At.final rfl (.t rfl) (List.nil_sublist _) (⟨by (rw [hst]; rfl), rfl, by (rw [hst]; rfl)⟩)
    ·
     have hst := Dd.step_3b (r := r) hl3 (by simpa using c4)
     refine Y ?_
     exact At.final rfl (.t rfl) (List.nil_sublist _) (⟨by (rw [hst]; rfl), rfl, by (rw [hst]; rfl)⟩)
   ·
    refine W ?_
    refine eA rfl (R.eql (.t rfl) .c) ?_
    refine W ?_
    refine At.condD (.t rfl) (fun c5 => ?_) (fun c5 => ?_)
    ·
     have hl4 : x.line = 4 := (by simpa using c5); have hst := Dd.step_4 (r := r) hl4 
     refine W ?_
     refine At.drawL ([ddB b x]) [tt 0, tt 1, tt 2, tt 3, tt 4, tt 5, tt 6, tt 7, tt 8, tt 9, tt 10, tt 11, tt 12, tt 13, tt 14] [] [ff 15] (keepOf sl) (by kernel_rfl) (by kernel_rfl) ?_
     refine W ?_
     refine sC rfl kz (R.or1V (.t rfl) gO) ?_
     refine At.stage kI ?_
     refine At.stage kz ?_
     refine At.callM (fst := []) (cap := []) rfl rfl rfl Ev.f (.k rfl (.k rfl (.k rfl (.k rfl .nil)))) rfl (.h (.skip (.take (.take .nil)))) .nil (r_Swap (r := r) (i := x.l + 2) (o := x.w) (x := orOne x.w) hn hN hf) keysRa .nil ⟨kz, ?_⟩
     refine W ?_
     refine At.st1 rfl rfl sz_3 (.t rfl) .c rfl rfl (.h U0) ⟨.all, ?_⟩
     refine Y ?_
     exact At.final rfl (.t rfl) (List.nil_sublist _) (⟨by (rw [hst]; rfl), rfl, by (rw [hst]; rfl)⟩)
    ·
     refine W ?_
     refine eA rfl (R.eql (.t rfl) .c) ?_
     refine W ?_
     refine At.condD (.t rfl) (fun c6 => ?_) (fun c6 => ?_)
     ·
      have hl5 : x.line = 5 := (by simpa using c6)
      refine W ?_
      refine At.callM (fst := []) (cap := []) rfl rfl rfl Ev.f (.k rfl (.k rfl .nil)) rfl (.h (.skip (.take (.take .nil)))) .nil (r_Load (r := r) (i := x.l + 4) hn hN hf) keysRa .nil ⟨.all, ?_⟩
      refine W ?_
      refine At.st1 rfl rfl sz_3 (.t rfl) (.t rfl) rfl rfl (.h U0) ⟨.all, ?_⟩
      refine W ?_
      refine At.st1 rfl rfl sz_3 (.t rfl) .c rfl rfl (.h U0) ⟨.all, ?_⟩
      refine W ?_
      refine eA rfl (R.neq (.t rfl) .c) ?_
      refine W ?_
      refine At.condN (.t rfl) (fun c7 => ?_) (fun c7 => ?_)
      ·
       have hst := Dd.step_5a (r := r) hl5 (by simpa using c7)
       refine W ?_
       refine At.callM (fst := []) (cap := []) rfl rfl rfl Ev.f (.k rfl .nil) rfl (.h (.take .nil)) .nil (dd_eight (x := (⟨x.th, x.cap, x.wd, x.ver, x.chunk, x.draw, x.drew, 6, x.l, x.n, x.w, (r.peek (x.l + 4)), x.alone, x.after⟩ : Dd))) rfl .nil ⟨.all, ?_⟩
       refine W ?_
       refine eA rfl (R.eql (.t rfl) .c) ?_
       refine W ?_
       exact At.final rfl (.t rfl) (List.nil_sublist _) (⟨by (rw [hst]; done), rfl, by (rw [hst]; done)⟩)
      ·
       have hst := Dd.step_5b (r := r) hl5 (by simpa using c7)
       refine Y ?_
       exact At.final rfl (.t rfl) (List.nil_sublist _) (⟨by (rw [hst]; rfl), rfl, by (rw [hst]; rfl)⟩)
     ·
      refine W ?_
      refine eA rfl (R.eql (.t rfl) .c) ?_
      refine W ?_
      refine At.condD (.t rfl) (fun c8 => ?_) (fun c8 => ?_)
      ·
       have hl6 : x.line = 6 := (by simpa using c8)
       refine W ?_
       refine eA rfl (R.neq (.s rfl) .c) ?_
       refine W ?_
       refine At.cond (.t rfl) (fun c9 => ?_) (fun c9 => ?_)
       ·
        have hst := Dd.step_6a (r := r) hl6 (by simpa using c9)
        refine W ?_
        refine At.callM (fst := []) (cap := []) rfl rfl rfl Ev.f (.k rfl (.k rfl (.kc (.k rfl .nil)))) rfl (.h (.skip (.take (.take .nil)))) .nil (r_Swap (r := r) (i := x.l + 4) (o := 0) (x := x.n) hn hN hf) keysRa .nil ⟨.all, ?_⟩
        refine W ?_
        refine At.st1 rfl rfl sz_4 (.t rfl) .c rfl rfl (.h U0) ⟨.all, ?_⟩
        refine W ?_
        refine At.st1 rfl rfl sz_3 (.t rfl) .c rfl rfl (.h U0) ⟨.all, ?_⟩
        refine Y ?_
        exact At.final rfl (.t rfl) (List.nil_sublist _) (⟨by (rw [hst]; rfl), rfl, by (rw [hst]; rfl)⟩)
       ·
        have hst := Dd.step_6b (r := r) hl6 (by simpa using c9)
        refine W ?_
        refine At.callM (fst := []) (cap := []) rfl rfl rfl Ev.f (.k rfl (.k rfl (.kc (.k rfl .nil)))) rfl (.h (.skip (.take (.take .nil)))) .nil (r_Swap (r := r) (i := x.l + 4) (o := 0) (x := 1) hn hN hf) keysRa .nil ⟨.all, ?_⟩
        refine W ?_
        refine At.st1 rfl rfl sz_4 (.t rfl) .c rfl rfl (.h U0) ⟨.all, ?_⟩
        refine W ?_
        refine At.st1 rfl rfl sz_3 (.t rfl) .c rfl rfl (.h U0) ⟨.all, ?_⟩
        refine Y ?_
        exact At.final rfl (.t rfl) (List.nil_sublist _) (⟨by (rw [hst]; rfl), rfl, by (rw [hst]; rfl)⟩)
      ·
       refine W ?_
       refine eA rfl (R.eql (.t rfl) .c) ?_
       refine W ?_
       refine At.condD (.t rfl) (fun c10 => ?_) (fun c10 => ?_)
       ·
        have hl7 : x.line = 7 := (by simpa using c10); have hst := Dd.step_7 (r := r) hl7 
        refine W ?_
        refine At.callM (fst := []) (cap := []) rfl rfl rfl Ev.f (.k rfl (.k rfl .nil)) rfl (.h (.skip (.take (.take .nil)))) .nil (r_Load (r := r) (i := x.l + 4) hn hN hf) keysRa .nil ⟨.all, ?_⟩
        refine W ?_
        refine At.st1 rfl rfl sz_3 (.t rfl) (.t rfl) rfl rfl (.h U0) ⟨.all, ?_⟩
        refine W ?_
        refine At.callM (fst := []) (cap := []) rfl rfl rfl Ev.f (.k rfl .nil) rfl (.h (.take .nil)) .nil (dd_eight (x := (⟨x.th, x.cap, x.wd, x.ver, x.chunk, x.draw, x.drew, x.line, x.l, x.n, x.w, (r.peek (x.l + 4)), x.alone, x.after⟩ : Dd))) rfl .nil ⟨.all, ?_⟩
        refine W ?_
        refine eA rfl (R.eql (.t rfl) .c) ?_
        refine W ?_
        exact At.final rfl (.t rfl) (List.nil_sublist _) (⟨by (rw [hst]; done), rfl, by (rw [hst]; done)⟩)
       ·
        have hst := Dd.step_o (r := r) (by simpa using c1) (by simpa using c2) (by simpa using c3) (by simpa using c5) (by simpa using c6) (by simpa using c8) (by simpa using c10)
        refine W ?_
        refine At.callM (fst := []) (cap := []) rfl rfl rfl Ev.f (.k rfl (.k rfl .nil)) rfl (.h (.take (.take (.take .nil)))) .nil (dd_more (x := x) (r := r) hx0 hn hN hf hw) keysDd .nil ⟨.all, ?_⟩
        refine W ?_
        refine eA rfl (R.eql (.t rfl) .c) ?_
        refine W ?_
        exact At.final rfl (.t rfl) (List.nil_sublist _) (⟨by (rw [hst]; done), rfl, by (rw [hst]; done)⟩)
theorem dd_Chunks {b : Nat} {x : Dd} : Fn Tryz.prog 142 [.pointer (some ⟨b, 0, none⟩)] ([ddB b x]) ([]) (IsV (.tuple #[.int .i64 x.ch1, .int .i64 x.ch2, .int .i64 x.ch3])) := by
 refine Fn.enter Tryz.func142 (by kernel_rfl) rfl (n := 34) rfl rfl (fun w => ?_)
 refine W ?_
 refine eA rfl (R.neq (.t rfl) .c) ?_
 refine W ?_
 refine At.condN (.t rfl) (fun c1 => ?_) (fun c1 => ?_)
 ·
  have hz : ¬ x.line = 0 := (by simpa using c1)
  refine W ?_
  exact At.final3 rfl (.t rfl) (.t rfl) (.t rfl) (List.nil_sublist _) (⟨by unfold Dd.ch1 Dd.ch2 Dd.ch3; (rw [if_neg hz, if_neg hz, if_neg hz]; done), rfl, rfl⟩)
 ·
  have hz : x.line = 0 := (by simpa using c1)
  refine W ?_
  refine At.cond (.t rfl) (fun c2 => ?_) (fun c2 => ?_)
  ·
   refine W ?_
   refine At.drawK [tt 0, tt 1, tt 2, tt 3, tt 4, tt 5, tt 6, tt 7, tt 8, tt 9, tt 10] (by kernel_rfl) (by kernel_rfl) ?_
   refine W ?_
   exact At.final3 rfl (.t rfl) (.t rfl) (.t rfl) (List.nil_sublist _) (⟨by unfold Dd.ch1 Dd.ch2 Dd.ch3; (rw [if_pos hz, if_pos hz, if_pos hz, if_pos c2]; rfl), rfl, rfl⟩)
  ·
   refine W ?_
   refine At.drawK [tt 0, tt 1, tt 2, tt 3, tt 4, tt 5, tt 6, tt 7, tt 8, tt 9, tt 10, tt 11, tt 12, tt 13, tt 14] (by kernel_rfl) (by kernel_rfl) ?_
   refine W ?_
   exact At.final3 rfl (.t rfl) (.t rfl) (.t rfl) (List.nil_sublist _) (⟨by unfold Dd.ch1 Dd.ch2 Dd.ch3; (rw [if_pos hz, if_pos hz, if_pos hz, if_neg (by simpa using c2)]; rfl), rfl, rfl⟩)
end Go.Proofs.YtbolanigdkgbdaaGreat
namespace Go.Proofs.YtbolanigdkgbdaaGreat
open Go Go.RowKit
set_option maxRecDepth 10000
set_option linter.unusedVariables false
set_option maxHeartbeats 1000000
theorem bt_215 : buildTab Tryz.prog 215 = some (#[.int .i64 0, .int .i64 0, .int .i64 0, .int .i64 0, .int .i64 0, .int .i64 0, .int .i64 0, .int .i64 0, .int .i64 0], [(0, 4), (4, 1), (5, 1), (6, 1), (7, 1), (8, 1)]) := by kernel_rfl
theorem bt_226 : buildTab Tryz.prog 226 = some (#[.int .i64 0, .int .i64 0, .int .i64 0, .int .i64 0, .int .i64 0, .int .i64 0, .int .i64 0, .int .i64 0, .int .i64 0, .int .i64 0, .int .i64 0, .int .i64 0, .int .i64 0], [(0, 4), (4, 1), (5, 1), (6, 1), (7, 1), (8, 1), (9, 1), (10, 1), (11, 1), (12, 1)]) := by kernel_rfl
def cellAtD (cap chunk mate i : Int) : Int := if i < cap then chunk + 7 + 3 * i else mate + 7 + 3 * (i - cap)
def cellsD (cap mate : Int) : Int := if mate = 0 then cap else 2 * cap
structure Dq where
  th : Int
  cap : Int
  wd : Int
  ver : Int
  chunk : Int
  mate : Int
  line : Int
  i : Int
  g : Int
abbrev dqC (x : Dq) : Array Value := #[.int .i64 x.th, .int .i64 x.cap, .int .i64 x.wd, .int .i64 x.ver, .int .i64 x.chunk, .int .i64 x.mate, .int .i64 x.line, .int .i64 x.i, .int .i64 x.g]
abbrev dqB (b : Nat) (x : Dq) : Ent := .blk b (.cells (dqC x) 215)
structure Dq.ok (x : Dq) : Prop where
  chunk : -1152921504606846976 ≤ x.chunk ∧ x.chunk ≤ 1152921504606846976
  mm : -1152921504606846976 ≤ x.mate ∧ x.mate ≤ 1152921504606846976
  ii : 0 ≤ x.i ∧ x.i ≤ 900
  cc : 0 ≤ x.cap ∧ x.cap ≤ 100
structure Dp where
  th : Int
  cap : Int
  wd : Int
  ver : Int
  chunk : Int
  mate : Int
  repl : Int
  line : Int
  m : Int
  cur : Int
  w : Int
  n : Int
  stuck : Int
abbrev dpC (x : Dp) : Array Value := #[.int .i64 x.th, .int .i64 x.cap, .int .i64 x.wd, .int .i64 x.ver, .int .i64 x.chunk, .int .i64 x.mate, .int .i64 x.repl, .int .i64 x.line, .int .i64 x.m, .int .i64 x.cur, .int .i64 x.w, .int .i64 x.n, .int .i64 x.stuck]
abbrev dpB (b : Nat) (x : Dp) : Ent := .blk b (.cells (dpC x) 226)
structure Dp.ok (x : Dp) : Prop where
  tt : 0 ≤ x.th ∧ x.th ≤ 1000000
  chunk : -1152921504606846976 ≤ x.chunk ∧ x.chunk ≤ 1152921504606846976
  mm : -1152921504606846976 ≤ x.mate ∧ x.mate ≤ 1152921504606846976
  cu : -1152921504606846976 ≤ x.cur ∧ x.cur ≤ 1152921504606846976
  nn : -1152921504606846976 ≤ x.n ∧ x.n ≤ 1152921504606846976
abbrev Dp.head (x : Dp) : Dp := (⟨x.th, x.cap, x.wd, x.ver, x.chunk, x.mate, x.repl, 3, x.m, (7 + x.th), x.w, x.n, x.stuck⟩ : Dp)
def Dq.step (x : Dq) (r : Rr) : Dq × Rr :=
  if x.line = 1 then if ¬ x.mate = 0 then ((⟨x.th, x.cap, x.wd, x.ver, x.chunk, x.mate, 2, x.i, x.g⟩ : Dq), r.store (x.chunk + 6) 1) else ((⟨x.th, x.cap, x.wd, x.ver, x.chunk, x.mate, 3, x.i, x.g⟩ : Dq), r.store (x.chunk + 6) 1)
  else if x.line = 2 then ((⟨x.th, x.cap, x.wd, x.ver, x.chunk, x.mate, 3, x.i, x.g⟩ : Dq), r.store (x.mate + 6) 1)
  else if x.line = 3 then if (r.peek (cellAtD x.cap x.chunk x.mate x.i)) = 0 then ((⟨x.th, x.cap, x.wd, x.ver, x.chunk, x.mate, 4, x.i, x.g⟩ : Dq), r.load (cellAtD x.cap x.chunk x.mate x.i)) else if (r.peek (cellAtD x.cap x.chunk x.mate x.i)) = 1 then ((⟨x.th, x.cap, x.wd, x.ver, x.chunk, x.mate, 5, x.i, x.g⟩ : Dq), r.load (cellAtD x.cap x.chunk x.mate x.i)) else if cellsD x.cap x.mate ≤ x.i + 1 then ((⟨x.th, x.cap, x.wd, x.ver, x.chunk, x.mate, 0, (x.i + 1), x.g⟩ : Dq), r.load (cellAtD x.cap x.chunk x.mate x.i)) else ((⟨x.th, x.cap, x.wd, x.ver, x.chunk, x.mate, x.line, (x.i + 1), x.g⟩ : Dq), r.load (cellAtD x.cap x.chunk x.mate x.i))
  else if x.line = 4 then ((⟨x.th, x.cap, x.wd, x.ver, x.chunk, x.mate, 3, x.i, x.g⟩ : Dq), r.swap (cellAtD x.cap x.chunk x.mate x.i) 0 2)
  else if x.line = 5 then ((⟨x.th, x.cap, x.wd, x.ver, x.chunk, x.mate, 6, x.i, (r.peek 1)⟩ : Dq), r.load 1)
  else if x.line = 6 then ((⟨x.th, x.cap, x.wd, x.ver, x.chunk, x.mate, 3, x.i, x.g⟩ : Dq), r.swap (cellAtD x.cap x.chunk x.mate x.i) 1 (min (max x.g 0) 16777212 + 3))
  else (x, r)
theorem Dq.step_1a {x : Dq} {r : Rr} (h : x.line = 1) (h0 : ¬ x.mate = 0) : Dq.step x r = ((⟨x.th, x.cap, x.wd, x.ver, x.chunk, x.mate, 2, x.i, x.g⟩ : Dq), r.store (x.chunk + 6) 1) := by unfold Dq.step; rw [if_pos h, if_pos h0]
theorem Dq.step_1b {x : Dq} {r : Rr} (h : x.line = 1) (h0 : ¬ (¬ x.mate = 0)) : Dq.step x r = ((⟨x.th, x.cap, x.wd, x.ver, x.chunk, x.mate, 3, x.i, x.g⟩ : Dq), r.store (x.chunk + 6) 1) := by unfold Dq.step; rw [if_pos h, if_neg h0]
theorem Dq.step_2 {x : Dq} {r : Rr} (h : x.line = 2)  : Dq.step x r = ((⟨x.th, x.cap, x.wd, x.ver, x.chunk, x.mate, 3, x.i, x.g⟩ : Dq), r.store (x.mate + 6) 1) := by unfold Dq.step; rw [if_neg (by omega), if_pos h]
theorem Dq.step_3a {x : Dq} {r : Rr} (h : x.line = 3) (h0 : (r.peek (cellAtD x.cap x.chunk x.mate x.i)) = 0) : Dq.step x r = ((⟨x.th, x.cap, x.wd, x.ver, x.chunk, x.mate, 4, x.i, x.g⟩ : Dq), r.load (cellAtD x.cap x.chunk x.mate x.i)) := by unfold Dq.step; rw [if_neg (by omega), if_neg (by omega), if_pos h, if_pos h0]
theorem Dq.step_3b {x : Dq} {r : Rr} (h : x.line = 3) (h0 : ¬ ((r.peek (cellAtD x.cap x.chunk x.mate x.i)) = 0)) (h1 : (r.peek (cellAtD x.cap x.chunk x.mate x.i)) = 1) : Dq.step x r = ((⟨x.th, x.cap, x.wd, x.ver, x.chunk, x.mate, 5, x.i, x.g⟩ : Dq), r.load (cellAtD x.cap x.chunk x.mate x.i)) := by unfold Dq.step; rw [if_neg (by omega), if_neg (by omega), if_pos h, if_neg h0, if_pos h1]
theorem Dq.step_3c {x : Dq} {r : Rr} (h : x.line = 3) (h0 : ¬ ((r.peek (cellAtD x.cap x.chunk x.mate x.i)) = 0)) (h1 : ¬ ((r.peek (cellAtD x.cap x.chunk x.mate x.i)) = 1)) (h2 : cellsD x.cap x.mate ≤ x.i + 1) : Dq.step x r = ((⟨x.th, x.cap, x.wd, x.ver, x.chunk, x.mate, 0, (x.i + 1), x.g⟩ : Dq), r.load (cellAtD x.cap x.chunk x.mate x.i)) := by unfold Dq.step; rw [if_neg (by omega), if_neg (by omega), if_pos h, if_neg h0, if_neg h1, if_pos h2]
theorem Dq.step_3d {x : Dq} {r : Rr} (h : x.line = 3) (h0 : ¬ ((r.peek (cellAtD x.cap x.chunk x.mate x.i)) = 0)) (h1 : ¬ ((r.peek (cellAtD x.cap x.chunk x.mate x.i)) = 1)) (h2 : ¬ (cellsD x.cap x.mate ≤ x.i + 1)) : Dq.step x r = ((⟨x.th, x.cap, x.wd, x.ver, x.chunk, x.mate, x.line, (x.i + 1), x.g⟩ : Dq), r.load (cellAtD x.cap x.chunk x.mate x.i)) := by unfold Dq.step; rw [if_neg (by omega), if_neg (by omega), if_pos h, if_neg h0, if_neg h1, if_neg h2]
theorem Dq.step_4 {x : Dq} {r : Rr} (h : x.line = 4)  : Dq.step x r = ((⟨x.th, x.cap, x.wd, x.ver, x.chunk, x.mate, 3, x.i, x.g⟩ : Dq), r.swap (cellAtD x.cap x.chunk x.mate x.i) 0 2) := by unfold Dq.step; rw [if_neg (by omega), if_neg (by omega), if_neg (by omega), if_pos h]
theorem Dq.step_5 {x : Dq} {r : Rr} (h : x.line = 5)  : Dq.step x r = ((⟨x.th, x.cap, x.wd, x.ver, x.chunk, x.mate, 6, x.i, (r.peek 1)⟩ : Dq), r.load 1) := by unfold Dq.step; rw [if_neg (by omega), if_neg (by omega), if_neg (by omega), if_neg (by omega), if_pos h]
theorem Dq.step_6 {x : Dq} {r : Rr} (h : x.line = 6)  : Dq.step x r = ((⟨x.th, x.cap, x.wd, x.ver, x.chunk, x.mate, 3, x.i, x.g⟩ : Dq), r.swap (cellAtD x.cap x.chunk x.mate x.i) 1 (min (max x.g 0) 16777212 + 3)) := by unfold Dq.step; rw [if_neg (by omega), if_neg (by omega), if_neg (by omega), if_neg (by omega), if_neg (by omega), if_pos h]
theorem Dq.step_o {x : Dq} {r : Rr} (h1 : ¬ x.line = 1) (h2 : ¬ x.line = 2) (h3 : ¬ x.line = 3) (h4 : ¬ x.line = 4) (h5 : ¬ x.line = 5) (h6 : ¬ x.line = 6) : Dq.step x r = (x, r) := by unfold Dq.step; rw [if_neg h1, if_neg h2, if_neg h3, if_neg h4, if_neg h5, if_neg h6]
def Dp.step (x : Dp) (r : Rr) : Dp × Rr :=
  if x.line = 1 then ((⟨x.th, x.cap, x.wd, x.ver, x.chunk, x.mate, x.repl, x.line, (r.peek x.chunk), x.cur, x.w, x.n, x.stuck⟩ : Dp).head, r.load x.chunk)
  else if x.line = 3 then if (r.peek (x.cur + 2)) % 2 = 1 then ((⟨x.th, x.cap, x.wd, x.ver, x.chunk, x.mate, x.repl, 0, x.m, x.cur, (r.peek (x.cur + 2)), ((r.peek (x.cur + 2)) / 2), x.cur⟩ : Dp), r.load (x.cur + 2)) else if (r.peek (x.cur + 2)) / 2 = 0 then ((⟨x.th, x.cap, x.wd, x.ver, x.chunk, x.mate, x.repl, 6, x.m, x.cur, (r.peek (x.cur + 2)), ((r.peek (x.cur + 2)) / 2), x.stuck⟩ : Dp), r.load (x.cur + 2)) else if (r.peek (x.cur + 2)) / 2 = x.chunk then ((⟨x.th, x.cap, x.wd, x.ver, x.chunk, x.mate, x.repl, 4, x.m, x.cur, (r.peek (x.cur + 2)), ((r.peek (x.cur + 2)) / 2), x.stuck⟩ : Dp), r.load (x.cur + 2)) else ((⟨x.th, x.cap, x.wd, x.ver, x.chunk, x.mate, x.repl, 5, x.m, x.cur, (r.peek (x.cur + 2)), ((r.peek (x.cur + 2)) / 2), x.stuck⟩ : Dp), r.load (x.cur + 2))
  else if x.line = 4 then if r.swaps (x.cur + 2) x.w = true then ((⟨x.th, x.cap, x.wd, x.ver, x.chunk, x.mate, x.repl, 6, x.m, x.cur, x.w, x.n, x.stuck⟩ : Dp), r.swap (x.cur + 2) x.w (nextD x.repl false)) else (x.head, r.swap (x.cur + 2) x.w (nextD x.repl false))
  else if x.line = 5 then if x.m ≤ r.peek x.n then ((⟨x.th, x.cap, x.wd, x.ver, x.chunk, x.mate, x.repl, 6, x.m, x.cur, x.w, x.n, x.stuck⟩ : Dp), r.load x.n) else ((⟨x.th, x.cap, x.wd, x.ver, x.chunk, x.mate, x.repl, 3, x.m, x.n, x.w, x.n, x.stuck⟩ : Dp), r.load x.n)
  else if x.line = 6 then if ¬ x.mate = 0 then ((⟨x.th, x.cap, x.wd, x.ver, x.chunk, x.mate, x.repl, 7, x.m, x.cur, x.w, x.n, x.stuck⟩ : Dp), r.store (x.chunk + 6) 2) else ((⟨x.th, x.cap, x.wd, x.ver, x.chunk, x.mate, x.repl, 8, x.m, x.cur, x.w, x.n, x.stuck⟩ : Dp), r.store (x.chunk + 6) 2)
  else if x.line = 7 then ((⟨x.th, x.cap, x.wd, x.ver, x.chunk, x.mate, x.repl, 8, x.m, x.cur, x.w, x.n, x.stuck⟩ : Dp), r.store (x.mate + 6) 2)
  else if x.line = 8 then ((⟨x.th, x.cap, x.wd, x.ver, x.chunk, x.mate, x.repl, 0, x.m, x.cur, x.w, x.n, x.stuck⟩ : Dp), r.store (3 + x.th + max 0 (min x.m 63) / 16) x.repl)
  else (x, r)
theorem Dp.step_1 {x : Dp} {r : Rr} (h : x.line = 1)  : Dp.step x r = ((⟨x.th, x.cap, x.wd, x.ver, x.chunk, x.mate, x.repl, x.line, (r.peek x.chunk), x.cur, x.w, x.n, x.stuck⟩ : Dp).head, r.load x.chunk) := by unfold Dp.step; rw [if_pos h]
theorem Dp.step_3a {x : Dp} {r : Rr} (h : x.line = 3) (h0 : (r.peek (x.cur + 2)) % 2 = 1) : Dp.step x r = ((⟨x.th, x.cap, x.wd, x.ver, x.chunk, x.mate, x.repl, 0, x.m, x.cur, (r.peek (x.cur + 2)), ((r.peek (x.cur + 2)) / 2), x.cur⟩ : Dp), r.load (x.cur + 2)) := by unfold Dp.step; rw [if_neg (by omega), if_pos h, if_pos h0]
theorem Dp.step_3b {x : Dp} {r : Rr} (h : x.line = 3) (h0 : ¬ ((r.peek (x.cur + 2)) % 2 = 1)) (h1 : (r.peek (x.cur + 2)) / 2 = 0) : Dp.step x r = ((⟨x.th, x.cap, x.wd, x.ver, x.chunk, x.mate, x.repl, 6, x.m, x.cur, (r.peek (x.cur + 2)), ((r.peek (x.cur + 2)) / 2), x.stuck⟩ : Dp), r.load (x.cur + 2)) := by unfold Dp.step; rw [if_neg (by omega), if_pos h, if_neg h0, if_pos h1]
theorem Dp.step_3c {x : Dp} {r : Rr} (h : x.line = 3) (h0 : ¬ ((r.peek (x.cur + 2)) % 2 = 1)) (h1 : ¬ ((r.peek (x.cur + 2)) / 2 = 0)) (h2 : (r.peek (x.cur + 2)) / 2 = x.chunk) : Dp.step x r = ((⟨x.th, x.cap, x.wd, x.ver, x.chunk, x.mate, x.repl, 4, x.m, x.cur, (r.peek (x.cur + 2)), ((r.peek (x.cur + 2)) / 2), x.stuck⟩ : Dp), r.load (x.cur + 2)) := by unfold Dp.step; rw [if_neg (by omega), if_pos h, if_neg h0, if_neg h1, if_pos h2]
theorem Dp.step_3d {x : Dp} {r : Rr} (h : x.line = 3) (h0 : ¬ ((r.peek (x.cur + 2)) % 2 = 1)) (h1 : ¬ ((r.peek (x.cur + 2)) / 2 = 0)) (h2 : ¬ ((r.peek (x.cur + 2)) / 2 = x.chunk)) : Dp.step x r = ((⟨x.th, x.cap, x.wd, x.ver, x.chunk, x.mate, x.repl, 5, x.m, x.cur, (r.peek (x.cur + 2)), ((r.peek (x.cur + 2)) / 2), x.stuck⟩ : Dp), r.load (x.cur + 2)) := by unfold Dp.step; rw [if_neg (by omega), if_pos h, if_neg h0, if_neg h1, if_neg h2]
theorem Dp.step_4a {x : Dp} {r : Rr} (h : x.line = 4) (h0 : r.swaps (x.cur + 2) x.w = true) : Dp.step x r = ((⟨x.th, x.cap, x.wd, x.ver, x.chunk, x.mate, x.repl, 6, x.m, x.cur, x.w, x.n, x.stuck⟩ : Dp), r.swap (x.cur + 2) x.w (nextD x.repl false)) := by unfold Dp.step; rw [if_neg (by omega), if_neg (by omega), if_pos h, if_pos h0]
theorem Dp.step_4b {x : Dp} {r : Rr} (h : x.line = 4) (h0 : ¬ (r.swaps (x.cur + 2) x.w = true)) : Dp.step x r = (x.head, r.swap (x.cur + 2) x.w (nextD x.repl false)) := by unfold Dp.step; rw [if_neg (by omega), if_neg (by omega), if_pos h, if_neg h0]
theorem Dp.step_5a {x : Dp} {r : Rr} (h : x.line = 5) (h0 : x.m ≤ r.peek x.n) : Dp.step x r = ((⟨x.th, x.cap, x.wd, x.ver, x.chunk, x.mate, x.repl, 6, x.m, x.cur, x.w, x.n, x.stuck⟩ : Dp), r.load x.n) := by unfold Dp.step; rw [if_neg (by omega), if_neg (by omega), if_neg (by omega), if_pos h, if_pos h0]
theorem Dp.step_5b {x : Dp} {r : Rr} (h : x.line = 5) (h0 : ¬ (x.m ≤ r.peek x.n)) : Dp.step x r = ((⟨x.th, x.cap, x.wd, x.ver, x.chunk, x.mate, x.repl, 3, x.m, x.n, x.w, x.n, x.stuck⟩ : Dp), r.load x.n) := by unfold Dp.step; rw [if_neg (by omega), if_neg (by omega), if_neg (by omega), if_pos h, if_neg h0]
theorem Dp.step_6a {x : Dp} {r : Rr} (h : x.line = 6) (h0 : ¬ x.mate = 0) : Dp.step x r = ((⟨x.th, x.cap, x.wd, x.ver, x.chunk, x.mate, x.repl, 7, x.m, x.cur, x.w, x.n, x.stuck⟩ : Dp), r.store (x.chunk + 6) 2) := by unfold Dp.step; rw [if_neg (by omega), if_neg (by omega), if_neg (by omega), if_neg (by omega), if_pos h, if_pos h0]
theorem Dp.step_6b {x : Dp} {r : Rr} (h : x.line = 6) (h0 : ¬ (¬ x.mate = 0)) : Dp.step x r = ((⟨x.th, x.cap, x.wd, x.ver, x.chunk, x.mate, x.repl, 8, x.m, x.cur, x.w, x.n, x.stuck⟩ : Dp), r.store (x.chunk + 6) 2) := by unfold Dp.step; rw [if_neg (by omega), if_neg (by omega), if_neg (by omega), if_neg (by omega), if_pos h, if_neg h0]
theorem Dp.step_7 {x : Dp} {r : Rr} (h : x.line = 7)  : Dp.step x r = ((⟨x.th, x.cap, x.wd, x.ver, x.chunk, x.mate, x.repl, 8, x.m, x.cur, x.w, x.n, x.stuck⟩ : Dp), r.store (x.mate + 6) 2) := by unfold Dp.step; rw [if_neg (by omega), if_neg (by omega), if_neg (by omega), if_neg (by omega), if_neg (by omega), if_pos h]
theorem Dp.step_8 {x : Dp} {r : Rr} (h : x.line = 8)  : Dp.step x r = ((⟨x.th, x.cap, x.wd, x.ver, x.chunk, x.mate, x.repl, 0, x.m, x.cur, x.w, x.n, x.stuck⟩ : Dp), r.store (3 + x.th + max 0 (min x.m 63) / 16) x.repl) := by unfold Dp.step; rw [if_neg (by omega), if_neg (by omega), if_neg (by omega), if_neg (by omega), if_neg (by omega), if_neg (by omega), if_pos h]
theorem Dp.step_o {x : Dp} {r : Rr} (h1 : ¬ x.line = 1) (h3 : ¬ x.line = 3) (h4 : ¬ x.line = 4) (h5 : ¬ x.line = 5) (h6 : ¬ x.line = 6) (h7 : ¬ x.line = 7) (h8 : ¬ x.line = 8) : Dp.step x r = (x, r) := by unfold Dp.step; rw [if_neg h1, if_neg h3, if_neg h4, if_neg h5, if_neg h6, if_neg h7, if_neg h8]
theorem d_cellAt {a b c d chunk mate i : Int} (h0 : -1152921504606846976 ≤ chunk ∧ chunk ≤ 1152921504606846976) (h1 : -1152921504606846976 ≤ mate ∧ mate ≤ 1152921504606846976) (h2 : -1000 ≤ i ∧ i ≤ 1000) (h3 : 0 ≤ b ∧ b ≤ 1000) : Fn Tryz.prog 164 [.agg #[.int .i64 a, .int .i64 b, .int .i64 c, .int .i64 d], .int .i64 chunk, .int .i64 mate, .int .i64 i] ([]) ([]) (IsV (.int .i64 (cellAtD b chunk mate i))) := by
 refine Fn.enter Tryz.func164 (by kernel_rfl) rfl (n := 22) rfl rfl (fun w => ?_)
 refine W ?_
 refine At.box rfl rfl rfl (.t rfl) (fun b1 hb1 => ⟨.all, ?_⟩)
 refine W ?_
 refine eA rfl (R.lss (.t rfl) (.t rfl)) ?_
 refine W ?_
 refine At.condD (.t rfl) (fun c1 => ?_) (fun c1 => ?_)
 ·
  refine W ?_
  refine At.callVR rfl rfl rfl (.k rfl (.k rfl .nil)) (.nil) (fun hg => r_StateAt (by omega) (by omega)) .all ?_
  refine W ?_
  exact At.final rfl (.t rfl) (List.nil_sublist _) (⟨congrArg (Value.int .i64) (by unfold cellAtD; rw [if_pos c1]), rfl, rfl⟩)
 ·
  refine W ?_
  refine At.callVR rfl rfl rfl (.k rfl (.k rfl .nil)) (.nil) (fun hg => r_StateAt (by omega) (by omega)) .all ?_
  refine W ?_
  exact At.final rfl (.t rfl) (List.nil_sublist _) (⟨congrArg (Value.int .i64) (by unfold cellAtD; rw [if_neg c1]), rfl, rfl⟩)
theorem d_cells {a b c d mate : Int} (h3 : 0 ≤ b ∧ b ≤ 1000) : Fn Tryz.prog 165 [.agg #[.int .i64 a, .int .i64 b, .int .i64 c, .int .i64 d], .int .i64 mate] ([]) ([]) (IsV (.int .i64 (cellsD b mate))) := by
 refine Fn.enter Tryz.func165 (by kernel_rfl) rfl (n := 12) rfl rfl (fun w => ?_)
 refine W ?_
 refine At.box rfl rfl rfl (.t rfl) (fun b1 hb1 => ⟨.all, ?_⟩)
 refine W ?_
 refine eA rfl (R.eql (.t rfl) .c) ?_
 refine W ?_
 refine At.condD (.t rfl) (fun c1 => ?_) (fun c1 => ?_)
 ·
  refine W ?_
  exact At.final rfl (.t rfl) (List.nil_sublist _) (⟨congrArg (Value.int .i64) (by unfold cellsD; rw [if_pos c1]), rfl, rfl⟩)
 ·
  refine W ?_
  exact At.final rfl (.t rfl) (List.nil_sublist _) (⟨congrArg (Value.int .i64) (by unfold cellsD; rw [if_neg c1]), rfl, rfl⟩)
theorem dq_New {a b c d chunk mate : Int} : Fn Tryz.prog 143 [.agg #[.int .i64 a, .int .i64 b, .int .i64 c, .int .i64 d], .int .i64 chunk, .int .i64 mate] ([]) ([]) (fun v N H => ∃ b1, v = .pointer (some ⟨b1, 0, none⟩) ∧ N = [dqB b1 (⟨a, b, c, d, chunk, mate, 1, 0, 0⟩ : Dq)] ∧ H = []) := by
 refine Fn.enter Tryz.func143 (by kernel_rfl) rfl (n := 12) rfl rfl (fun w => ?_)
 refine W ?_
 refine At.box rfl rfl rfl (.t rfl) (fun b1 hb1 => ⟨.all, ?_⟩)
 refine W ?_
 refine eA rfl (R.build bt_215 (.k rfl (.k rfl (.k rfl (.kc .nil)))) (.cons rfl (.cons rfl (.cons rfl (.cons rfl .nil)))) rfl) ?_
 refine At.box rfl rfl rfl (.t rfl) (fun b2 hb2 => ⟨.all, ?_⟩)
 refine W ?_
 exact At.final (N' := [dqB b2 (⟨a, b, c, d, chunk, mate, 1, 0, 0⟩ : Dq)]) rfl (.t rfl) sl (⟨b2, rfl, rfl, rfl⟩)
theorem dq_Step {b ba n : Nat} {wv : Value} {x : Dq} {r : Rr} (hx : x.ok) (hn : r.w.length = n) (hN : n ≤ 1000000) (hf : r.few) (hw : r.mid 1152921504606846976) : Fn Tryz.prog 144 [.pointer (some ⟨b, 0, none⟩), .pointer (some ⟨ba, 0, none⟩)] ([]) ([dqB b x, raB ba wv r, raW wv n r]) (IsM (.bool (decide ((x.step r).1.line = 0))) [dqB b (x.step r).1, raB ba wv (x.step r).2, raW wv n (x.step r).2]) := by
 refine Fn.enter Tryz.func144 (by kernel_rfl) rfl (n := 135) rfl rfl (fun w => ?_)
 have hx0 := hx
 obtain ⟨hx1, hx2, hx3, hx4⟩ := hx
 have hln : x.line = 3 → x.i + 1 ≤ 1000 := fun h => by omega
 refine W ?_
 refine At.drawK [tt 0, tt 1, tt 2, tt 3, tt 4, tt 5, tt 6, tt 7, tt 8, tt 9, tt 10, tt 11, tt 12, tt 13, tt 14, tt 15, ff 16, tt 17] (by kernel_rfl) (by kernel_rfl) ?_
 refine W ?_
 refine At.callVR rfl rfl rfl (.k rfl (.k rfl (.k rfl (.k rfl .nil)))) (.nil) (fun hg => d_cellAt (by omega) (by omega) (by omega) (by omega)) kI ?_
 refine W ?_
 refine eA rfl (R.eql (.t rfl) .c) ?_
 refine W ?_
 refine At.condD (.t rfl) (fun c1 => ?_) (fun c1 => ?_)
 ·
  have hl1 : x.line = 1 := (by simpa using c1)
  refine W ?_
  refine At.callM (fst := []) (cap := []) rfl rfl rfl Ev.f (.k rfl (.k rfl (.kc .nil))) rfl (.h (.skip (.take (.take .nil)))) .nil (r_Store (r := r) (i := x.chunk + 6) (x := 1) hn hN hf) keysRa .nil ⟨.all, ?_⟩
  refine W ?_
  refine At.st1 rfl rfl sz_3 (.t rfl) .c rfl rfl (.h U0) ⟨.all, ?_⟩
  refine W ?_
  refine eA rfl (R.neq (.t rfl) .c) ?_
  refine W ?_
  refine At.condN (.t rfl) (fun c2 => ?_) (fun c2 => ?_)
  ·
   have hst := Dq.step_1a (r := r) hl1 (by simpa using c2)
   refine W ?_
   refine At.st1 rfl rfl sz_3 (.t rfl) .c rfl rfl (.h U0) ⟨.all, ?_⟩
   refine Y ?_
   exact At.final rfl (.t rfl) (List.nil_sublist _) (⟨by (rw [hst]; rfl), rfl, by (rw [hst]; rfl)⟩)
  ·
   have hst := Dq.step_1b (r := r) hl1 (by simpa using c2)
   refine Y ?_
   exact At.final rfl (.t rfl) (List.nil_sublist _) (⟨by (rw [hst]; rfl), rfl, by (rw [hst]; rfl)⟩)
 ·
  refine W ?_
  refine eA rfl (R.eql (.t rfl) .c) ?_
  refine W ?_
  refine At.condD (.t rfl) (fun c3 => ?_) (fun c3 => ?_)
  ·
   have hl2 : x.line = 2 := (by simpa using c3); have hst := Dq.step_2 (r := r) hl2 
   refine W ?_
   refine At.callM (fst := []) (cap := []) rfl rfl rfl Ev.f (.k rfl (.k rfl (.kc .nil))) rfl (.h (.skip (.take (.take .nil)))) .nil (r_Store (r := r) (i := x.mate + 6) (x := 1) hn hN hf) keysRa .nil ⟨.all, ?_⟩
   refine W ?_
   refine At.st1 rfl rfl sz_3 (.t rfl) .c rfl rfl (.h U0) ⟨.all, ?_⟩
   refine Y ?_
   exact At.final rfl (.t rfl) (List.nil_sublist _) (⟨by (rw [hst]; rfl), rfl, by (rw [hst]; rfl)⟩)
  ·
   refine W ?_
   refine eA rfl (R.eql (.t rfl) .c) ?_
   refine W ?_
   refine At.condD (.t rfl) (fun c4 => ?_) (fun c4 => ?_)
   ·
    have hl3 : x.line = 3 := (by simpa using c4)
    refine W ?_
    refine At.callM (fst := []) (cap := []) rfl rfl rfl Ev.f (.k rfl (.k rfl .nil)) rfl (.h (.skip (.take (.take .nil)))) .nil (r_Load (r := r) (i := (cellAtD x.cap x.chunk x.mate x.i)) hn hN hf) keysRa .nil ⟨.all, ?_⟩
    refine W ?_
    refine eA rfl (R.eql (.t rfl) .c) ?_
    refine W ?_
    refine At.condD (.t rfl) (fun c5 => ?_) (fun c5 => ?_)
    ·
     have hst := Dq.step_3a (r := r) hl3 (by simpa using c5)
     refine W ?_
     refine At.st1 rfl rfl sz_3 (.t rfl) .c rfl rfl (.h U0) ⟨.all, ?_⟩
     refine Y ?_
     exact At.final rfl (.t rfl) (List.nil_sublist _) (⟨by (rw [hst]; rfl), rfl, by (rw [hst]; rfl)⟩)
    ·
     refine W ?_
     refine eA rfl (R.eql (.t rfl) .c) ?_
     refine W ?_
     refine At.condD (.t rfl) (fun c6 => ?_) (fun c6 => ?_)
     ·
      have hst := Dq.step_3b (r := r) hl3 (by simpa using c5) (by simpa using c6)
      refine W ?_
      refine At.st1 rfl rfl sz_3 (.t rfl) .c rfl rfl (.h U0) ⟨.all, ?_⟩
      refine Y ?_
      exact At.final rfl (.t rfl) (List.nil_sublist _) (⟨by (rw [hst]; rfl), rfl, by (rw [hst]; rfl)⟩)
     ·
      refine W ?_
      refine At.st1 rfl rfl sz_3 (.t rfl) (.t rfl) rfl rfl (.h U0) ⟨.all, ?_⟩
      refine W ?_
      refine At.drawK [tt 0, tt 1, tt 2, tt 3, tt 4, tt 5, tt 6, tt 7, tt 8, tt 9, tt 10, tt 11, ff 12, tt 13] (by kernel_rfl) (by kernel_rfl) ?_
      refine W ?_
      refine At.callVR rfl rfl rfl (.k rfl (.k rfl .nil)) (.nil) (fun hg => d_cells (by omega)) kI ?_
      refine sJ rfl (R.geq (.t rfl) (.t rfl)) ?_
      refine W ?_
      refine At.condD (.t rfl) (fun c7 => ?_) (fun c7 => ?_)
      ·
       have hst := Dq.step_3c (r := r) hl3 (by simpa using c5) (by simpa using c6) (by simpa using c7)
       refine W ?_
       refine At.st1 rfl rfl sz_3 (.t rfl) .c rfl rfl (.h U0) ⟨.all, ?_⟩
       refine Y ?_
       exact At.final rfl (.t rfl) (List.nil_sublist _) (⟨by (rw [hst]; rfl), rfl, by (rw [hst]; rfl)⟩)
      ·
       have hst := Dq.step_3d (r := r) hl3 (by simpa using c5) (by simpa using c6) (by simpa using c7)
       refine Y ?_
       exact At.final rfl (.t rfl) (List.nil_sublist _) (⟨by (rw [hst]; exact congrArg Value.bool (decide_eq_false (by dsimp only; omega)).symm), rfl, by (rw [hst]; rfl)⟩)
   ·
    refine W ?_
    refine eA rfl (R.eql (.t rfl) .c) ?_
    refine W ?_
    refine At.condD (.t rfl) (fun c8 => ?_) (fun c8 => ?_)
    ·
     have hl4 : x.line = 4 := (by simpa using c8); have hst := Dq.step_4 (r := r) hl4 
     refine W ?_
     refine At.callM (fst := []) (cap := []) rfl rfl rfl Ev.f (.k rfl (.k rfl (.kc (.kc .nil)))) rfl (.h (.skip (.take (.take .nil)))) .nil (r_Swap (r := r) (i := (cellAtD x.cap x.chunk x.mate x.i)) (o := 0) (x := 2) hn hN hf) keysRa .nil ⟨.all, ?_⟩
     refine W ?_
     refine At.st1 rfl rfl sz_3 (.t rfl) .c rfl rfl (.h U0) ⟨.all, ?_⟩
     refine Y ?_
     exact At.final rfl (.t rfl) (List.nil_sublist _) (⟨by (rw [hst]; rfl), rfl, by (rw [hst]; rfl)⟩)
    ·
     refine W ?_
     refine eA rfl (R.eql (.t rfl) .c) ?_
     refine W ?_
     refine At.condD (.t rfl) (fun c9 => ?_) (fun c9 => ?_)
     ·
      have hl5 : x.line = 5 := (by simpa using c9); have hst := Dq.step_5 (r := r) hl5 
      refine W ?_
      refine At.callM (fst := []) (cap := []) rfl rfl rfl Ev.f (.k rfl (.kc .nil)) rfl (.h (.skip (.take (.take .nil)))) .nil (r_Load (r := r) (i := 1) hn hN hf) keysRa .nil ⟨.all, ?_⟩
      refine W ?_
      refine At.st1 rfl rfl sz_3 (.t rfl) (.t rfl) rfl rfl (.h U0) ⟨.all, ?_⟩
      refine W ?_
      refine At.st1 rfl rfl sz_3 (.t rfl) .c rfl rfl (.h U0) ⟨.all, ?_⟩
      refine Y ?_
      exact At.final rfl (.t rfl) (List.nil_sublist _) (⟨by (rw [hst]; rfl), rfl, by (rw [hst]; rfl)⟩)
     ·
      refine W ?_
      refine eA rfl (R.eql (.t rfl) .c) ?_
      refine W ?_
      refine At.condD (.t rfl) (fun c10 => ?_) (fun c10 => ?_)
      ·
       have hl6 : x.line = 6 := (by simpa using c10); have hst := Dq.step_6 (r := r) hl6 
       refine W ?_
       refine At.callVR rfl rfl rfl (.k rfl .nil) (.nil) (fun hg => r_State) .all ?_
       refine At.callM (fst := []) (cap := []) rfl rfl rfl Ev.f (.k rfl (.k rfl (.kc (.k rfl .nil)))) rfl (.h (.skip (.take (.take .nil)))) .nil (r_Swap (r := r) (i := (cellAtD x.cap x.chunk x.mate x.i)) (o := 1) (x := min (max x.g 0) 16777212 + 3) hn hN hf) keysRa .nil ⟨.all, ?_⟩
       refine W ?_
       refine At.st1 rfl rfl sz_3 (.t rfl) .c rfl rfl (.h U0) ⟨.all, ?_⟩
       refine Y ?_
       exact At.final rfl (.t rfl) (List.nil_sublist _) (⟨by (rw [hst]; rfl), rfl, by (rw [hst]; rfl)⟩)
      ·
       have hst := Dq.step_o (r := r) (by simpa using c1) (by simpa using c3) (by simpa using c4) (by simpa using c8) (by simpa using c9) (by simpa using c10)
       refine W ?_
       refine eA rfl (R.eql (.t rfl) .c) ?_
       refine W ?_
       exact At.final rfl (.t rfl) (List.nil_sublist _) (⟨by (rw [hst]; done), rfl, by (rw [hst]; done)⟩)
theorem dp_New {a b c d chunk mate repl : Int} : Fn Tryz.prog 166 [.agg #[.int .i64 a, .int .i64 b, .int .i64 c, .int .i64 d], .int .i64 chunk, .int .i64 mate, .int .i64 repl] ([]) ([]) (fun v N H => ∃ b1, v = .pointer (some ⟨b1, 0, none⟩) ∧ N = [dpB b1 (⟨a, b, c, d, chunk, mate, repl, 1, 0, 0, 0, 0, 0⟩ : Dp)] ∧ H = []) := by
 refine Fn.enter Tryz.func166 (by kernel_rfl) rfl (n := 15) rfl rfl (fun w => ?_)
 refine W ?_
 refine At.box rfl rfl rfl (.t rfl) (fun b1 hb1 => ⟨.all, ?_⟩)
 refine W ?_
 refine eA rfl (R.build bt_226 (.k rfl (.k rfl (.k rfl (.k rfl (.kc .nil))))) (.cons rfl (.cons rfl (.cons rfl (.cons rfl (.cons rfl .nil))))) rfl) ?_
 refine At.box rfl rfl rfl (.t rfl) (fun b2 hb2 => ⟨.all, ?_⟩)
 refine W ?_
 exact At.final (N' := [dpB b2 (⟨a, b, c, d, chunk, mate, repl, 1, 0, 0, 0, 0, 0⟩ : Dp)]) rfl (.t rfl) sl (⟨b2, rfl, rfl, rfl⟩)
theorem dp_head {b : Nat} {x : Dp} (h0 : 0 ≤ x.th ∧ x.th ≤ 1000000) : Fn Tryz.prog 184 [.pointer (some ⟨b, 0, none⟩)] ([]) ([dpB b x]) (IsM (.tuple #[]) [dpB b x.head]) := by
 refine Fn.enter Tryz.func184 (by kernel_rfl) rfl (n := 13) rfl rfl (fun w => ?_)
 refine W ?_
 refine At.callVR rfl rfl rfl (.k rfl .nil) (.nil) (fun hg => r_Head (by omega)) .all ?_
 refine W ?_
 refine At.st1 rfl rfl sz_3 (.t rfl) (.t rfl) rfl rfl (.h U0) ⟨.all, ?_⟩
 refine W ?_
 refine At.st1 rfl rfl sz_3 (.t rfl) .c rfl rfl (.h U0) ⟨.all, ?_⟩
 refine W ?_
 exact At.final0 rfl (List.nil_sublist _) (⟨rfl, rfl, rfl⟩) _ (.inr rfl)
theorem dp_Step {b ba n : Nat} {wv : Value} {x : Dp} {r : Rr} (hx : x.ok) (hn : r.w.length = n) (hN : n ≤ 1000000) (hf : r.few) (hw : r.mid 1152921504606846976) : Fn Tryz.prog 174 [.pointer (some ⟨b, 0, none⟩), .pointer (some ⟨ba, 0, none⟩)] ([]) ([dpB b x, raB ba wv r, raW wv n r]) (IsM (.bool (decide ((x.step r).1.line = 0))) [dpB b (x.step r).1, raB ba wv (x.step r).2, raW wv n (x.step r).2]) := by
 refine Fn.enter Tryz.func174 (by kernel_rfl) rfl (n := 193) rfl rfl (fun w => ?_)
 have hx0 := hx
 obtain ⟨hx1, hx2, hx3, hx4, hx5⟩ := hx
 refine W ?_
 refine eA rfl (R.eql (.t rfl) .c) ?_
 refine W ?_
 refine At.condD (.t rfl) (fun c1 => ?_) (fun c1 => ?_)
 ·
  have hl1 : x.line = 1 := (by simpa using c1); have hst := Dp.step_1 (r := r) hl1 
  refine U ?_
  refine eA rfl (R.as (R.addI (.t rfl) .c gO) (fun _ => congrArg (Value.int .i64) (Int.add_zero x.chunk))) ?_
  refine At.callM (fst := []) (cap := []) rfl rfl rfl Ev.f (.k rfl (.k rfl .nil)) rfl (.h (.skip (.take (.take .nil)))) .nil (r_Load (r := r) (i := x.chunk) hn hN hf) keysRa .nil ⟨.all, ?_⟩
  refine W ?_
  refine At.st1 rfl rfl sz_3 (.t rfl) (.t rfl) rfl rfl (.h U0) ⟨.all, ?_⟩
  refine W ?_
  refine At.callM (fst := []) (cap := []) rfl rfl rfl Ev.f (.k rfl .nil) rfl (.h (.take .nil)) .nil (dp_head (x := (⟨x.th, x.cap, x.wd, x.ver, x.chunk, x.mate, x.repl, x.line, (r.peek x.chunk), x.cur, x.w, x.n, x.stuck⟩ : Dp)) hx1) rfl .nil ⟨.all, ?_⟩
  refine W ?_
  refine eA rfl (R.eql (.t rfl) .c) ?_
  refine W ?_
  exact At.final rfl (.t rfl) (List.nil_sublist _) (⟨by (rw [hst]; done), rfl, by (rw [hst]; done)⟩)
 ·
  refine W ?_
  refine eA rfl (R.eql (.t rfl) .c) ?_
  refine W ?_
  refine At.condD (.t rfl) (fun c2 => ?_) (fun c2 => ?_)
  ·
   have hl3 : x.line = 3 := (by simpa using c2)
   refine W ?_
   refine At.callM (fst := []) (cap := []) rfl rfl rfl Ev.f (.k rfl (.k rfl .nil)) rfl (.h (.skip (.take (.take .nil)))) .nil (r_Load (r := r) (i := x.cur + 2) hn hN hf) keysRa .nil ⟨.all, ?_⟩
   refine W ?_
   refine At.st1 rfl rfl sz_3 (.t rfl) (.t rfl) rfl rfl (.h U0) ⟨.all, ?_⟩
   refine W ?_
   refine At.callVR rfl rfl rfl (.k rfl .nil) (.nil) (fun hg => r_At) .all ?_
   refine W ?_
   refine At.st1 rfl rfl sz_3 (.t rfl) (.t rfl) rfl rfl (.h U0) ⟨.all, ?_⟩
   refine W ?_
   refine At.callVR rfl rfl rfl (.k rfl .nil) (.nil) (fun hg => r_Marked) .all ?_
   refine W ?_
   refine At.condD (.t rfl) (fun c3 => ?_) (fun c3 => ?_)
   ·
    have hst := Dp.step_3a (r := r) hl3 (by simpa using c3)
    refine W ?_
    refine At.st1 rfl rfl sz_3 (.t rfl) (.t rfl) rfl rfl (.h U0) ⟨.all, ?_⟩
    refine W ?_
    refine At.st1 rfl rfl sz_3 (.t rfl) .c rfl rfl (.h U0) ⟨.all, ?_⟩
    refine Y ?_
    exact At.final rfl (.t rfl) (List.nil_sublist _) (⟨by (rw [hst]; rfl), rfl, by (rw [hst]; rfl)⟩)
   ·
    refine W ?_
    refine eA rfl (R.eql (.t rfl) .c) ?_
    refine W ?_
    refine At.condD (.t rfl) (fun c4 => ?_) (fun c4 => ?_)
    ·
     have hst := Dp.step_3b (r := r) hl3 (by simpa using c3) (by simpa using c4)
     refine W ?_
     refine At.st1 rfl rfl sz_3 (.t rfl) .c rfl rfl (.h U0) ⟨.all, ?_⟩
     refine Y ?_
     exact At.final rfl (.t rfl) (List.nil_sublist _) (⟨by (rw [hst]; rfl), rfl, by (rw [hst]; rfl)⟩)
    ·
     refine W ?_
     refine At.drawK [tt 0, tt 1, tt 2, tt 3, tt 4, tt 5, tt 6, tt 7, tt 8, tt 9] (by kernel_rfl) (by kernel_rfl) ?_
     refine W ?_
     refine sJ rfl (R.eql (.t rfl) (.t rfl)) ?_
     refine W ?_
     refine At.condD (.t rfl) (fun c5 => ?_) (fun c5 => ?_)
     ·
      have hst := Dp.step_3c (r := r) hl3 (by simpa using c3) (by simpa using c4) (by simpa using c5)
      refine W ?_
      refine At.st1 rfl rfl sz_3 (.t rfl) .c rfl rfl (.h U0) ⟨.all, ?_⟩
      refine Y ?_
      exact At.final rfl (.t rfl) (List.nil_sublist _) (⟨by (rw [hst]; rfl), rfl, by (rw [hst]; rfl)⟩)
     ·
      have hst := Dp.step_3d (r := r) hl3 (by simpa using c3) (by simpa using c4) (by simpa using c5)
      refine W ?_
      refine At.st1 rfl rfl sz_3 (.t rfl) .c rfl rfl (.h U0) ⟨.all, ?_⟩
      refine Y ?_
      exact At.final rfl (.t rfl) (List.nil_sublist _) (⟨by (rw [hst]; rfl), rfl, by (rw [hst]; rfl)⟩)
  ·
   refine W ?_
   refine eA rfl (R.eql (.t rfl) .c) ?_
   refine W ?_
   refine At.condD (.t rfl) (fun c6 => ?_) (fun c6 => ?_)
   ·
    have hl4 : x.line = 4 := (by simpa using c6)
    refine W ?_
    refine At.drawL ([dpB b x]) [tt 0, tt 1, tt 2, tt 3, tt 4, tt 5, tt 6, tt 7, tt 8, tt 9, tt 10, tt 11, tt 12, tt 13] [ff 14] [ff 15] (keepOf sl) (by kernel_rfl) (by kernel_rfl) ?_
    refine V ?_
    refine At.stage kI ?_
    refine At.callVR rfl rfl rfl (.k rfl (.kc .nil)) (.nil) (fun hg => r_Next) kI ?_
    refine At.stage kz ?_
    refine At.callM (fst := []) (cap := []) rfl rfl rfl Ev.f (.k rfl (.k rfl (.k rfl (.k rfl .nil)))) rfl (.h (.skip (.take (.take .nil)))) .nil (r_Swap (r := r) (i := x.cur + 2) (o := x.w) (x := nextD x.repl false) hn hN hf) keysRa .nil ⟨kz, ?_⟩
    refine W ?_
    refine At.cond (.t rfl) (fun c7 => ?_) (fun c7 => ?_)
    ·
     have hst := Dp.step_4a (r := r) hl4 (by simpa using c7)
     refine W ?_
     refine At.st1 rfl rfl sz_3 (.t rfl) .c rfl rfl (.h U0) ⟨.all, ?_⟩
     refine Y ?_
     exact At.final rfl (.t rfl) (List.nil_sublist _) (⟨by (rw [hst]; rfl), rfl, by (rw [hst]; rfl)⟩)
    ·
     have hst := Dp.step_4b (r := r) hl4 (by simpa using c7)
     refine W ?_
     refine At.callM (fst := []) (cap := []) rfl rfl rfl Ev.f (.k rfl .nil) rfl (.h (.take .nil)) .nil (dp_head (x := x) hx1) rfl .nil ⟨.all, ?_⟩
     refine W ?_
     refine eA rfl (R.eql (.t rfl) .c) ?_
     refine W ?_
     exact At.final rfl (.t rfl) (List.nil_sublist _) (⟨by (rw [hst]; done), rfl, by (rw [hst]; done)⟩)
   ·
    refine W ?_
    refine eA rfl (R.eql (.t rfl) .c) ?_
    refine W ?_
    refine At.condD (.t rfl) (fun c8 => ?_) (fun c8 => ?_)
    ·
     have hl5 : x.line = 5 := (by simpa using c8)
     refine W ?_
     refine At.drawL ([dpB b x]) [tt 0, tt 1, tt 2, tt 3, tt 4, tt 5, tt 7, tt 8, tt 9, tt 10] [] [ff 6, tt 11] (keepOf sl) (by kernel_rfl) (by kernel_rfl) ?_
     refine U ?_
     refine sC rfl kz (R.as (R.addI (.t rfl) .c gO) (fun _ => congrArg (Value.int .i64) (Int.add_zero x.n))) ?_
     refine V ?_
     refine At.stage kI ?_
     refine At.stage kz ?_
     refine At.callM (fst := []) (cap := []) rfl rfl rfl Ev.f (.k rfl (.k rfl .nil)) rfl (.h (.skip (.take (.take .nil)))) .nil (r_Load (r := r) (i := x.n) hn hN hf) keysRa .nil ⟨kz, ?_⟩
     refine sC rfl kz (R.geq (.t rfl) (.t rfl)) ?_
     refine W ?_
     refine At.condD (.t rfl) (fun c9 => ?_) (fun c9 => ?_)
     ·
      have hst := Dp.step_5a (r := r) hl5 (by simpa using c9)
      refine W ?_
      refine At.st1 rfl rfl sz_3 (.t rfl) .c rfl rfl (.h U0) ⟨.all, ?_⟩
      refine Y ?_
      exact At.final rfl (.t rfl) (List.nil_sublist _) (⟨by (rw [hst]; rfl), rfl, by (rw [hst]; rfl)⟩)
     ·
      have hst := Dp.step_5b (r := r) hl5 (by simpa using c9)
      refine W ?_
      refine At.st1 rfl rfl sz_3 (.t rfl) (.t rfl) rfl rfl (.h U0) ⟨.all, ?_⟩
      refine W ?_
      refine At.st1 rfl rfl sz_3 (.t rfl) .c rfl rfl (.h U0) ⟨.all, ?_⟩
      refine Y ?_
      exact At.final rfl (.t rfl) (List.nil_sublist _) (⟨by (rw [hst]; rfl), rfl, by (rw [hst]; rfl)⟩)
    ·
     refine W ?_
     refine eA rfl (R.eql (.t rfl) .c) ?_
     refine W ?_
     refine At.condD (.t rfl) (fun c10 => ?_) (fun c10 => ?_)
     ·
      have hl6 : x.line = 6 := (by simpa using c10)
      refine W ?_
      refine At.callM (fst := []) (cap := []) rfl rfl rfl Ev.f (.k rfl (.k rfl (.kc .nil))) rfl (.h (.skip (.take (.take .nil)))) .nil (r_Store (r := r) (i := x.chunk + 6) (x := 2) hn hN hf) keysRa .nil ⟨.all, ?_⟩
      refine W ?_
      refine At.st1 rfl rfl sz_3 (.t rfl) .c rfl rfl (.h U0) ⟨.all, ?_⟩
      refine W ?_
      refine eA rfl (R.neq (.t rfl) .c) ?_
      refine W ?_
      refine At.condN (.t rfl) (fun c11 => ?_) (fun c11 => ?_)
      ·
       have hst := Dp.step_6a (r := r) hl6 (by simpa using c11)
       refine W ?_
       refine At.st1 rfl rfl sz_3 (.t rfl) .c rfl rfl (.h U0) ⟨.all, ?_⟩
       refine Y ?_
       exact At.final rfl (.t rfl) (List.nil_sublist _) (⟨by (rw [hst]; rfl), rfl, by (rw [hst]; rfl)⟩)
      ·
       have hst := Dp.step_6b (r := r) hl6 (by simpa using c11)
       refine Y ?_
       exact At.final rfl (.t rfl) (List.nil_sublist _) (⟨by (rw [hst]; rfl), rfl, by (rw [hst]; rfl)⟩)
     ·
      refine W ?_
      refine eA rfl (R.eql (.t rfl) .c) ?_
      refine W ?_
      refine At.condD (.t rfl) (fun c12 => ?_) (fun c12 => ?_)
      ·
       have hl7 : x.line = 7 := (by simpa using c12); have hst := Dp.step_7 (r := r) hl7 
       refine W ?_
       refine At.callM (fst := []) (cap := []) rfl rfl rfl Ev.f (.k rfl (.k rfl (.kc .nil))) rfl (.h (.skip (.take (.take .nil)))) .nil (r_Store (r := r) (i := x.mate + 6) (x := 2) hn hN hf) keysRa .nil ⟨.all, ?_⟩
       refine W ?_
       refine At.st1 rfl rfl sz_3 (.t rfl) .c rfl rfl (.h U0) ⟨.all, ?_⟩
       refine Y ?_
       exact At.final rfl (.t rfl) (List.nil_sublist _) (⟨by (rw [hst]; rfl), rfl, by (rw [hst]; rfl)⟩)
      ·
       refine W ?_
       refine eA rfl (R.eql (.t rfl) .c) ?_
       refine W ?_
       refine At.condD (.t rfl) (fun c13 => ?_) (fun c13 => ?_)
       ·
        have hl8 : x.line = 8 := (by simpa using c13); have hst := Dp.step_8 (r := r) hl8 
        refine W ?_
        refine At.drawL ([dpB b x]) [tt 0, tt 1, tt 2, tt 3, tt 4, tt 5, tt 6, tt 7, tt 8, tt 9, tt 10, tt 12, tt 13, tt 14, tt 15] [ff 11] [ff 16] (keepOf sl) (by kernel_rfl) (by kernel_rfl) ?_
        refine W ?_
        refine sC rfl kz (R.min2 (.t rfl) .c) ?_
        refine sC rfl kz (R.max2 .c (.t rfl)) ?_
        refine V ?_
        refine At.stage kI ?_
        refine At.callVR rfl rfl rfl (.k rfl (.k rfl .nil)) (.nil) (fun hg => r_Hint (by omega) (by omega)) kI ?_
        refine At.stage kz ?_
        refine At.callM (fst := []) (cap := []) rfl rfl rfl Ev.f (.k rfl (.k rfl (.k rfl .nil))) rfl (.h (.skip (.take (.take .nil)))) .nil (r_Store (r := r) (i := (3 + x.th + max 0 (min x.m 63) / 16)) (x := x.repl) hn hN hf) keysRa .nil ⟨kz, ?_⟩
        refine W ?_
        refine At.st1 rfl rfl sz_3 (.t rfl) .c rfl rfl (.h U0) ⟨.all, ?_⟩
        refine Y ?_
        exact At.final rfl (.t rfl) (List.nil_sublist _) (⟨by (rw [hst]; rfl), rfl, by (rw [hst]; rfl)⟩)
       ·
        have hst := Dp.step_o (r := r) (by simpa using c1) (by simpa using c2) (by simpa using c6) (by simpa using c8) (by simpa using c10) (by simpa using c12) (by simpa using c13)
        refine W ?_
        refine eA rfl (R.eql (.t rfl) .c) ?_
        refine W ?_
        exact At.final rfl (.t rfl) (List.nil_sublist _) (⟨by (rw [hst]; done), rfl, by (rw [hst]; done)⟩)
end Go.Proofs.YtbolanigdkgbdaaGreat
