/- Part of the proof: lemmas for what the last file states; no condition. -/
import Derived.Test.YtbolanigdkgbdaaGreatZF5
set_option linter.unusedSectionVars false
namespace Go.Proofs.YtbolanigdkgbdaaGreat
open Go Go.RowKit
set_option maxRecDepth 10000
set_option linter.unusedVariables false
set_option maxHeartbeats 1000000
theorem bt_196 : buildTab Tryz.prog 196 = some (#[.int .i64 0, .int .i64 0, .int .i64 0, .int .i64 0, .int .i64 0, .bool false, .bool false, .int .i64 0, .int .i64 0, .int .i64 0, .int .i64 0, .int .i64 0, .bool false, .int .i64 0], [(0, 4), (4, 1), (5, 1), (6, 1), (7, 1), (8, 1), (9, 1), (10, 1), (11, 1), (12, 1), (13, 1)]) := by kernel_rfl
theorem fo_196_1 : fieldOff? Tryz.prog 196 1 = some 4 := by kernel_rfl
theorem fo_196_10 : fieldOff? Tryz.prog 196 10 = some 13 := by kernel_rfl
theorem fo_196_2 : fieldOff? Tryz.prog 196 2 = some 5 := by kernel_rfl
theorem fo_196_3 : fieldOff? Tryz.prog 196 3 = some 6 := by kernel_rfl
theorem fo_196_4 : fieldOff? Tryz.prog 196 4 = some 7 := by kernel_rfl
theorem fo_196_5 : fieldOff? Tryz.prog 196 5 = some 8 := by kernel_rfl
theorem fo_196_6 : fieldOff? Tryz.prog 196 6 = some 9 := by kernel_rfl
theorem fo_196_7 : fieldOff? Tryz.prog 196 7 = some 10 := by kernel_rfl
theorem fo_196_8 : fieldOff? Tryz.prog 196 8 = some 11 := by kernel_rfl
theorem fo_196_9 : fieldOff? Tryz.prog 196 9 = some 12 := by kernel_rfl
structure Dd where
  th : Int
  cap : Int
  wd : Int
  ver : Int
  chunk : Int
  draw : Bool
  drew : Bool
  line : Int
  l : Int
  n : Int
  w : Int
  mate : Int
  alone : Bool
  after : Int
abbrev ddC (x : Dd) : Array Value := #[.int .i64 x.th, .int .i64 x.cap, .int .i64 x.wd, .int .i64 x.ver, .int .i64 x.chunk, .bool x.draw, .bool x.drew, .int .i64 x.line, .int .i64 x.l, .int .i64 x.n, .int .i64 x.w, .int .i64 x.mate, .bool x.alone, .int .i64 x.after]
abbrev ddB (b : Nat) (x : Dd) : Ent := .blk b (.cells (ddC x) 196)
structure Dd.ok (x : Dd) : Prop where
  chunk : -1152921504606846976 ≤ x.chunk ∧ x.chunk ≤ 1152921504606846976
  ll : -1152921504606846976 ≤ x.l ∧ x.l ≤ 1152921504606846976
  nn : -1152921504606846976 ≤ x.n ∧ x.n ≤ 1152921504606846976
  ww : -1152921504606846976 ≤ x.w ∧ x.w ≤ 1152921504606846976
abbrev Dd.alon (x : Dd) : Dd := (⟨x.th, x.cap, x.wd, x.ver, x.chunk, x.draw, x.drew, 0, x.l, x.n, x.w, x.mate, true, x.n⟩ : Dd)
def Dd.eight (x : Dd) : Dd := if x.mate = 1 ∨ x.n = 0 then Dd.alon (⟨x.th, x.cap, x.wd, x.ver, x.chunk, x.draw, x.drew, 8, x.l, x.n, x.w, x.mate, x.alone, x.after⟩ : Dd) else (⟨x.th, x.cap, x.wd, x.ver, x.chunk, x.draw, x.drew, 8, x.l, x.n, x.w, x.mate, x.alone, x.after⟩ : Dd)
def Dd.ch1 (x : Dd) : Int := if x.line = 0 then x.l else 0
def Dd.ch2 (x : Dd) : Int := if x.line = 0 then if x.alone = true then 0 else x.n else 0
def Dd.ch3 (x : Dd) : Int := if x.line = 0 then x.after else 0
theorem keysDd {b ba n : Nat} {wv : Value} {k k' : Dd} {x y x' y' : Rr} : keys [ddB b k, raB ba wv x, raW wv n y] = keys [ddB b k', raB ba wv x', raW wv n y'] := rfl
def Dd.more (x : Dd) (r : Rr) : Dd × Rr :=
  if x.line = 8 then ((⟨x.th, x.cap, x.wd, x.ver, x.chunk, x.draw, x.drew, 9, x.l, x.n, x.w, x.mate, x.alone, x.after⟩ : Dd), r.swap (x.n + 3) 0 x.l)
  else if x.line = 9 then if ¬ r.peek (x.n + 3) = x.l then ((⟨x.th, x.cap, x.wd, x.ver, x.chunk, x.draw, x.drew, 10, x.l, x.n, x.w, x.mate, x.alone, x.after⟩ : Dd).alon, r.load (x.n + 3)) else ((⟨x.th, x.cap, x.wd, x.ver, x.chunk, x.draw, x.drew, 10, x.l, x.n, x.w, x.mate, x.alone, x.after⟩ : Dd), r.load (x.n + 3))
  else if x.line = 10 then if (r.peek (x.n + 2)) % 2 = 1 then ((⟨x.th, x.cap, x.wd, x.ver, x.chunk, x.draw, x.drew, 0, x.l, x.n, (r.peek (x.n + 2)), x.mate, x.alone, ((r.peek (x.n + 2)) / 2)⟩ : Dd), r.load (x.n + 2)) else ((⟨x.th, x.cap, x.wd, x.ver, x.chunk, x.draw, x.drew, 11, x.l, x.n, (r.peek (x.n + 2)), x.mate, x.alone, x.after⟩ : Dd), r.load (x.n + 2))
  else if x.line = 11 then ((⟨x.th, x.cap, x.wd, x.ver, x.chunk, x.draw, x.drew, 10, x.l, x.n, x.w, x.mate, x.alone, x.after⟩ : Dd), r.swap (x.n + 2) x.w (orOne x.w))
  else (x, r)
theorem Dd.more_8 {x : Dd} {r : Rr} (h : x.line = 8)  : Dd.more x r = ((⟨x.th, x.cap, x.wd, x.ver, x.chunk, x.draw, x.drew, 9, x.l, x.n, x.w, x.mate, x.alone, x.after⟩ : Dd), r.swap (x.n + 3) 0 x.l) := by unfold Dd.more; rw [if_pos h]
theorem Dd.more_9a {x : Dd} {r : Rr} (h : x.line = 9) (h0 : ¬ r.peek (x.n + 3) = x.l) : Dd.more x r = ((⟨x.th, x.cap, x.wd, x.ver, x.chunk, x.draw, x.drew, 10, x.l, x.n, x.w, x.mate, x.alone, x.after⟩ : Dd).alon, r.load (x.n + 3)) := by unfold Dd.more; rw [if_neg (by omega), if_pos h, if_pos h0]
theorem Dd.more_9b {x : Dd} {r : Rr} (h : x.line = 9) (h0 : ¬ (¬ r.peek (x.n + 3) = x.l)) : Dd.more x r = ((⟨x.th, x.cap, x.wd, x.ver, x.chunk, x.draw, x.drew, 10, x.l, x.n, x.w, x.mate, x.alone, x.after⟩ : Dd), r.load (x.n + 3)) := by unfold Dd.more; rw [if_neg (by omega), if_pos h, if_neg h0]
theorem Dd.more_10a {x : Dd} {r : Rr} (h : x.line = 10) (h0 : (r.peek (x.n + 2)) % 2 = 1) : Dd.more x r = ((⟨x.th, x.cap, x.wd, x.ver, x.chunk, x.draw, x.drew, 0, x.l, x.n, (r.peek (x.n + 2)), x.mate, x.alone, ((r.peek (x.n + 2)) / 2)⟩ : Dd), r.load (x.n + 2)) := by unfold Dd.more; rw [if_neg (by omega), if_neg (by omega), if_pos h, if_pos h0]
theorem Dd.more_10b {x : Dd} {r : Rr} (h : x.line = 10) (h0 : ¬ ((r.peek (x.n + 2)) % 2 = 1)) : Dd.more x r = ((⟨x.th, x.cap, x.wd, x.ver, x.chunk, x.draw, x.drew, 11, x.l, x.n, (r.peek (x.n + 2)), x.mate, x.alone, x.after⟩ : Dd), r.load (x.n + 2)) := by unfold Dd.more; rw [if_neg (by omega), if_neg (by omega), if_pos h, if_neg h0]
theorem Dd.more_11 {x : Dd} {r : Rr} (h : x.line = 11)  : Dd.more x r = ((⟨x.th, x.cap, x.wd, x.ver, x.chunk, x.draw, x.drew, 10, x.l, x.n, x.w, x.mate, x.alone, x.after⟩ : Dd), r.swap (x.n + 2) x.w (orOne x.w)) := by unfold Dd.more; rw [if_neg (by omega), if_neg (by omega), if_neg (by omega), if_pos h]
theorem Dd.more_o {x : Dd} {r : Rr} (h8 : ¬ x.line = 8) (h9 : ¬ x.line = 9) (h10 : ¬ x.line = 10) (h11 : ¬ x.line = 11) : Dd.more x r = (x, r) := by unfold Dd.more; rw [if_neg h8, if_neg h9, if_neg h10, if_neg h11]
def Dd.step (x : Dd) (r : Rr) : Dd × Rr :=
  if x.line = 1 then ((⟨x.th, x.cap, x.wd, x.ver, x.chunk, x.draw, x.drew, 2, x.l, x.n, x.w, x.mate, x.alone, x.after⟩ : Dd), r.swap (x.chunk + 3) 0 x.chunk)
  else if x.line = 2 then ((⟨x.th, x.cap, x.wd, x.ver, x.chunk, x.draw, x.drew, 3, (r.peek (x.chunk + 3)), x.n, x.w, x.mate, x.alone, x.after⟩ : Dd), r.load (x.chunk + 3))
  else if x.line = 3 then if (r.peek (x.l + 2)) % 2 = 1 then ((⟨x.th, x.cap, x.wd, x.ver, x.chunk, x.draw, x.drew, 5, x.l, ((r.peek (x.l + 2)) / 2), (r.peek (x.l + 2)), x.mate, x.alone, x.after⟩ : Dd), r.load (x.l + 2)) else ((⟨x.th, x.cap, x.wd, x.ver, x.chunk, x.draw, x.drew, 4, x.l, x.n, (r.peek (x.l + 2)), x.mate, x.alone, x.after⟩ : Dd), r.load (x.l + 2))
  else if x.line = 4 then ((⟨x.th, x.cap, x.wd, x.ver, x.chunk, x.draw, x.drew, 3, x.l, x.n, x.w, x.mate, x.alone, x.after⟩ : Dd), r.swap (x.l + 2) x.w (orOne x.w))
  else if x.line = 5 then if ¬ (r.peek (x.l + 4)) = 0 then ((⟨x.th, x.cap, x.wd, x.ver, x.chunk, x.draw, x.drew, 6, x.l, x.n, x.w, (r.peek (x.l + 4)), x.alone, x.after⟩ : Dd).eight, r.load (x.l + 4)) else ((⟨x.th, x.cap, x.wd, x.ver, x.chunk, x.draw, x.drew, 6, x.l, x.n, x.w, (r.peek (x.l + 4)), x.alone, x.after⟩ : Dd), r.load (x.l + 4))
  else if x.line = 6 then if x.draw = true ∧ ¬ x.n = 0 then ((⟨x.th, x.cap, x.wd, x.ver, x.chunk, x.draw, true, 7, x.l, x.n, x.w, x.mate, x.alone, x.after⟩ : Dd), r.swap (x.l + 4) 0 x.n) else ((⟨x.th, x.cap, x.wd, x.ver, x.chunk, x.draw, true, 7, x.l, x.n, x.w, x.mate, x.alone, x.after⟩ : Dd), r.swap (x.l + 4) 0 1)
  else if x.line = 7 then ((⟨x.th, x.cap, x.wd, x.ver, x.chunk, x.draw, x.drew, x.line, x.l, x.n, x.w, (r.peek (x.l + 4)), x.alone, x.after⟩ : Dd).eight, r.load (x.l + 4))
  else x.more r
theorem Dd.step_1 {x : Dd} {r : Rr} (h : x.line = 1)  : Dd.step x r = ((⟨x.th, x.cap, x.wd, x.ver, x.chunk, x.draw, x.drew, 2, x.l, x.n, x.w, x.mate, x.alone, x.after⟩ : Dd), r.swap (x.chunk + 3) 0 x.chunk) := by unfold Dd.step; rw [if_pos h]
theorem Dd.step_2 {x : Dd} {r : Rr} (h : x.line = 2)  : Dd.step x r = ((⟨x.th, x.cap, x.wd, x.ver, x.chunk, x.draw, x.drew, 3, (r.peek (x.chunk + 3)), x.n, x.w, x.mate, x.alone, x.after⟩ : Dd), r.load (x.chunk + 3)) := by unfold Dd.step; rw [if_neg (by omega), if_pos h]
theorem Dd.step_3a {x : Dd} {r : Rr} (h : x.line = 3) (h0 : (r.peek (x.l + 2)) % 2 = 1) : Dd.step x r = ((⟨x.th, x.cap, x.wd, x.ver, x.chunk, x.draw, x.drew, 5, x.l, ((r.peek (x.l + 2)) / 2), (r.peek (x.l + 2)), x.mate, x.alone, x.after⟩ : Dd), r.load (x.l + 2)) := by unfold Dd.step; rw [if_neg (by omega), if_neg (by omega), if_pos h, if_pos h0]
theorem Dd.step_3b {x : Dd} {r : Rr} (h : x.line = 3) (h0 : ¬ ((r.peek (x.l + 2)) % 2 = 1)) : Dd.step x r = ((⟨x.th, x.cap, x.wd, x.ver, x.chunk, x.draw, x.drew, 4, x.l, x.n, (r.peek (x.l + 2)), x.mate, x.alone, x.after⟩ : Dd), r.load (x.l + 2)) := by unfold Dd.step; rw [if_neg (by omega), if_neg (by omega), if_pos h, if_neg h0]
theorem Dd.step_4 {x : Dd} {r : Rr} (h : x.line = 4)  : Dd.step x r = ((⟨x.th, x.cap, x.wd, x.ver, x.chunk, x.draw, x.drew, 3, x.l, x.n, x.w, x.mate, x.alone, x.after⟩ : Dd), r.swap (x.l + 2) x.w (orOne x.w)) := by unfold Dd.step; rw [if_neg (by omega), if_neg (by omega), if_neg (by omega), if_pos h]
theorem Dd.step_5a {x : Dd} {r : Rr} (h : x.line = 5) (h0 : ¬ (r.peek (x.l + 4)) = 0) : Dd.step x r = ((⟨x.th, x.cap, x.wd, x.ver, x.chunk, x.draw, x.drew, 6, x.l, x.n, x.w, (r.peek (x.l + 4)), x.alone, x.after⟩ : Dd).eight, r.load (x.l + 4)) := by unfold Dd.step; rw [if_neg (by omega), if_neg (by omega), if_neg (by omega), if_neg (by omega), if_pos h, if_pos h0]
theorem Dd.step_5b {x : Dd} {r : Rr} (h : x.line = 5) (h0 : ¬ (¬ (r.peek (x.l + 4)) = 0)) : Dd.step x r = ((⟨x.th, x.cap, x.wd, x.ver, x.chunk, x.draw, x.drew, 6, x.l, x.n, x.w, (r.peek (x.l + 4)), x.alone, x.after⟩ : Dd), r.load (x.l + 4)) := by unfold Dd.step; rw [if_neg (by omega), if_neg (by omega), if_neg (by omega), if_neg (by omega), if_pos h, if_neg h0]
theorem Dd.step_6a {x : Dd} {r : Rr} (h : x.line = 6) (h0 : x.draw = true ∧ ¬ x.n = 0) : Dd.step x r = ((⟨x.th, x.cap, x.wd, x.ver, x.chunk, x.draw, true, 7, x.l, x.n, x.w, x.mate, x.alone, x.after⟩ : Dd), r.swap (x.l + 4) 0 x.n) := by unfold Dd.step; rw [if_neg (by omega), if_neg (by omega), if_neg (by omega), if_neg (by omega), if_neg (by omega), if_pos h, if_pos h0]
theorem Dd.step_6b {x : Dd} {r : Rr} (h : x.line = 6) (h0 : ¬ (x.draw = true ∧ ¬ x.n = 0)) : Dd.step x r = ((⟨x.th, x.cap, x.wd, x.ver, x.chunk, x.draw, true, 7, x.l, x.n, x.w, x.mate, x.alone, x.after⟩ : Dd), r.swap (x.l + 4) 0 1) := by unfold Dd.step; rw [if_neg (by omega), if_neg (by omega), if_neg (by omega), if_neg (by omega), if_neg (by omega), if_pos h, if_neg h0]
theorem Dd.step_7 {x : Dd} {r : Rr} (h : x.line = 7)  : Dd.step x r = ((⟨x.th, x.cap, x.wd, x.ver, x.chunk, x.draw, x.drew, x.line, x.l, x.n, x.w, (r.peek (x.l + 4)), x.alone, x.after⟩ : Dd).eight, r.load (x.l + 4)) := by unfold Dd.step; rw [if_neg (by omega), if_neg (by omega), if_neg (by omega), if_neg (by omega), if_neg (by omega), if_neg (by omega), if_pos h]
theorem Dd.step_o {x : Dd} {r : Rr} (h1 : ¬ x.line = 1) (h2 : ¬ x.line = 2) (h3 : ¬ x.line = 3) (h4 : ¬ x.line = 4) (h5 : ¬ x.line = 5) (h6 : ¬ x.line = 6) (h7 : ¬ x.line = 7) : Dd.step x r = x.more r := by unfold Dd.step; rw [if_neg h1, if_neg h2, if_neg h3, if_neg h4, if_neg h5, if_neg h6, if_neg h7]
theorem dd_New {a b c d chunk : Int} {dr : Bool} : Fn Tryz.prog 175 [.agg #[.int .i64 a, .int .i64 b, .int .i64 c, .int .i64 d], .int .i64 chunk, .bool dr] ([]) ([]) (fun v N H => ∃ b1, v = .pointer (some ⟨b1, 0, none⟩) ∧ N = [ddB b1 (⟨a, b, c, d, chunk, dr, false, 1, 0, 0, 0, 0, false, 0⟩ : Dd)] ∧ H = []) := by
 refine Fn.enter Tryz.func175 (by kernel_rfl) rfl (n := 12) rfl rfl (fun w => ?_)
 refine W ?_
 refine At.box rfl rfl rfl (.t rfl) (fun b1 hb1 => ⟨.all, ?_⟩)
 refine W ?_
 refine eA rfl (R.build bt_196 (.k rfl (.k rfl (.k rfl (.kc .nil)))) (.cons rfl (.cons rfl (.cons rfl (.cons rfl .nil)))) rfl) ?_
 refine At.box rfl rfl rfl (.t rfl) (fun b2 hb2 => ⟨.all, ?_⟩)
 refine W ?_
 exact At.final (N' := [ddB b2 (⟨a, b, c, d, chunk, dr, false, 1, 0, 0, 0, 0, false, 0⟩ : Dd)]) rfl (.t rfl) sl (⟨b2, rfl, rfl, rfl⟩)
theorem dd_alone {b : Nat} {x : Dd} : Fn Tryz.prog 177 [.pointer (some ⟨b, 0, none⟩)] ([]) ([ddB b x]) (IsM (.tuple #[]) [ddB b x.alon]) := by
 refine Fn.enter Tryz.func177 (by kernel_rfl) rfl (n := 15) rfl rfl (fun w => ?_)
 refine W ?_
 refine At.st1 rfl rfl sz_4 (.t rfl) .c rfl rfl (.h U0) ⟨.all, ?_⟩
 refine W ?_
 refine At.st1 rfl rfl sz_3 (.t rfl) (.t rfl) rfl rfl (.h U0) ⟨.all, ?_⟩
 refine W ?_
 refine At.st1 rfl rfl sz_3 (.t rfl) .c rfl rfl (.h U0) ⟨.all, ?_⟩
 refine W ?_
 exact At.final0 rfl (List.nil_sublist _) (⟨rfl, rfl, rfl⟩) _ (.inr rfl)
theorem dd_eight {b : Nat} {x : Dd} : Fn Tryz.prog 162 [.pointer (some ⟨b, 0, none⟩)] ([]) ([ddB b x]) (IsM (.tuple #[]) [ddB b x.eight]) := by
 refine Fn.enter Tryz.func162 (by kernel_rfl) rfl (n := 19) rfl rfl (fun w => ?_)
 refine W ?_
 refine At.st1 rfl rfl sz_3 (.t rfl) .c rfl rfl (.h U0) ⟨.all, ?_⟩
 refine Z ?_
 refine At.cond (.t rfl) (fun c1 => ?_) (fun c1 => ?_)
 ·
  refine W ?_
  refine cM rfl rfl rfl (.k rfl .nil) rfl (.h (.take .nil)) .nil (dd_alone (x := (⟨x.th, x.cap, x.wd, x.ver, x.chunk, x.draw, x.drew, 8, x.l, x.n, x.w, x.mate, x.alone, x.after⟩ : Dd))) rfl .nil ⟨.all, ?_⟩
  refine W ?_
  exact At.final0 rfl (List.nil_sublist _) (⟨rfl, rfl, by unfold Dd.eight; (rw [if_pos (by simp at c1; omega)]; done)⟩) _ (.inr rfl)
 ·
  refine W ?_
  exact At.final0 rfl (List.nil_sublist _) (⟨rfl, rfl, by unfold Dd.eight; (rw [if_neg (by simp at c1; omega)]; rfl)⟩) _ (.inr rfl)
theorem dd_more {b ba n : Nat} {wv : Value} {x : Dd} {r : Rr} (hx : x.ok) (hn : r.w.length = n) (hN : n ≤ 1000000) (hf : r.few) (hw : r.mid 1152921504606846976) : Fn Tryz.prog 163 [.pointer (some ⟨b, 0, none⟩), .pointer (some ⟨ba, 0, none⟩)] ([]) ([ddB b x, raB ba wv r, raW wv n r]) (IsM (.tuple #[]) [ddB b (x.more r).1, raB ba wv (x.more r).2, raW wv n (x.more r).2]) := by
 refine Fn.enter Tryz.func163 (by kernel_rfl) rfl (n := 95) rfl rfl (fun w => ?_)
 have hx0 := hx
 obtain ⟨hx1, hx2, hx3, hx4⟩ := hx
 refine Z ?_
 refine At.condD (.t rfl) (fun c1 => ?_) (fun c1 => ?_)
 ·
  have hl8 : x.line = 8 := (by simpa using c1); have hst := Dd.more_8 (r := r) hl8 
  refine W ?_
  refine At.drawL ([ddB b x]) [tt 0, tt 1, tt 2, tt 3, tt 4, tt 5, tt 6, tt 7, tt 8, tt 9] [] [ff 10] (keepOf sl) (by kernel_rfl) (by kernel_rfl) ?_
  refine V ?_
  refine At.stage kI ?_
  refine At.stage kz ?_
  refine cM rfl rfl rfl (.k rfl (.k rfl (.kc (.k rfl .nil)))) rfl (.h (.skip (.take (.take .nil)))) .nil (r_Swap (r := r) (i := x.n + 3) (o := 0) (x := x.l) hn hN hf) keysRa .nil ⟨kz, ?_⟩
  refine W ?_
  refine At.st1 rfl rfl sz_3 (.t rfl) .c rfl rfl (.h U0) ⟨.all, ?_⟩
  refine W ?_
  exact At.final0 rfl (List.nil_sublist _) (⟨rfl, rfl, by (rw [hst]; rfl)⟩) _ (.inr rfl)
 ·
  refine Z ?_
  refine At.condD (.t rfl) (fun c2 => ?_) (fun c2 => ?_)
  ·
   have hl9 : x.line = 9 := (by simpa using c2)
   refine W ?_
   refine At.st1 rfl rfl sz_3 (.t rfl) .c rfl rfl (.h U0) ⟨.all, ?_⟩
   refine W ?_
   refine At.reH (H' := [ddB b (⟨x.th, x.cap, x.wd, x.ver, x.chunk, x.draw, x.drew, 10, x.l, x.n, x.w, x.mate, x.alone, x.after⟩ : Dd), raB ba wv r, raW wv n r]) rfl ?_
   have hq : (⟨x.th, x.cap, x.wd, x.ver, x.chunk, x.draw, x.drew, 10, x.l, x.n, x.w, x.mate, x.alone, x.after⟩ : Dd).n = x.n := rfl
   refine At.drawL ([ddB b (⟨x.th, x.cap, x.wd, x.ver, x.chunk, x.draw, x.drew, 10, x.l, x.n, x.w, x.mate, x.alone, x.after⟩ : Dd)]) [tt 0, tt 1, tt 2, tt 3, tt 4, tt 5, tt 7, tt 8, tt 9, tt 10] [] [ff 6, tt 11] (keepOf sl) (by kernel_rfl) (by kernel_rfl) ?_
   refine V ?_
   refine At.stage kI ?_
   refine At.stage kz ?_
   refine cM rfl rfl rfl (.k rfl (.k rfl .nil)) rfl (.h (.skip (.take (.take .nil)))) .nil (r_Load (r := r) (i := x.n + 3) hn hN hf) keysRa .nil ⟨kz, ?_⟩
   refine Z ?_
   refine At.condN (.t rfl) (fun c3 => ?_) (fun c3 => ?_)
   ·
    have hst := Dd.more_9a (r := r) hl9 (by simpa using c3)
    refine W ?_
    refine cM rfl rfl rfl (.k rfl .nil) rfl (.h (.take .nil)) .nil (dd_alone (x := (⟨x.th, x.cap, x.wd, x.ver, x.chunk, x.draw, x.drew, 10, x.l, x.n, x.w, x.mate, x.alone, x.after⟩ : Dd))) rfl .nil ⟨.all, ?_⟩
    refine W ?_
    exact At.final0 rfl (List.nil_sublist _) (⟨rfl, rfl, by (rw [hst]; done)⟩) _ (.inr rfl)
   ·
    have hst := Dd.more_9b (r := r) hl9 (by simpa using c3)
    refine W ?_
    exact At.final0 rfl (List.nil_sublist _) (⟨rfl, rfl, by (rw [hst]; done)⟩) _ (.inr rfl)
  ·
   refine Z ?_
   refine At.condD (.t rfl) (fun c4 => ?_) (fun c4 => ?_)
   ·
    have hl10 : x.line = 10 := (by simpa using c4)
    refine W ?_
    refine cM rfl rfl rfl (.k rfl (.k rfl .nil)) rfl (.h (.skip (.take (.take .nil)))) .nil (r_Load (r := r) (i := x.n + 2) hn hN hf) keysRa .nil ⟨.all, ?_⟩
    refine W ?_
    refine At.st1 rfl rfl sz_3 (.t rfl) (.t rfl) rfl rfl (.h U0) ⟨.all, ?_⟩
    refine W ?_
    refine At.st1 rfl rfl sz_3 (.t rfl) .c rfl rfl (.h U0) ⟨.all, ?_⟩
    refine W ?_
    refine At.callVR rfl rfl rfl (.k rfl .nil) (.nil) (fun hg => r_Marked) .all ?_
    refine W ?_
    refine At.condD (.t rfl) (fun c5 => ?_) (fun c5 => ?_)
    ·
     have hst := Dd.more_10a (r := r) hl10 (by simpa using c5)
     refine W ?_
     refine At.callVR rfl rfl rfl (.k rfl .nil) (.nil) (fun hg => r_At) .all ?_
     refine W ?_
     refine At.st1 rfl rfl sz_3 (.t rfl) (.t rfl) rfl rfl (.h U0) ⟨.all, ?_⟩
     refine W ?_
     refine At.st1 rfl rfl sz_3 (.t rfl) .c rfl rfl (.h U0) ⟨.all, ?_⟩
     refine W ?_
     exact At.final0 rfl (List.nil_sublist _) (⟨rfl, rfl, by (rw [hst]; rfl)⟩) _ (.inr rfl)
    ·
     have hst := Dd.more_10b (r := r) hl10 (by simpa using c5)
     refine W ?_
     exact At.final0 rfl (List.nil_sublist _) (⟨rfl, rfl, by (rw [hst]; rfl)⟩) _ (.inr rfl)
   ·
    refine Z ?_
    refine At.condD (.t rfl) (fun c6 => ?_) (fun c6 => ?_)
    ·
     have hl11 : x.line = 11 := (by simpa using c6); have hst := Dd.more_11 (r := r) hl11 
     refine W ?_
     refine At.drawL ([ddB b x]) [tt 0, tt 1, tt 2, tt 3, tt 4, tt 5, tt 6, tt 7, tt 8, tt 9, tt 10, tt 11, tt 12, tt 13, tt 14] [] [ff 15] (keepOf sl) (by kernel_rfl) (by kernel_rfl) ?_
     refine W ?_
     refine sC rfl kz (R.or1V (.t rfl) gO) ?_
     refine At.stage kI ?_
     refine At.stage kz ?_
     refine cM rfl rfl rfl (.k rfl (.k rfl (.k rfl (.k rfl .nil)))) rfl (.h (.skip (.take (.take .nil)))) .nil (r_Swap (r := r) (i := x.n + 2) (o := x.w) (x := orOne x.w) hn hN hf) keysRa .nil ⟨kz, ?_⟩
     refine W ?_
     refine At.st1 rfl rfl sz_3 (.t rfl) .c rfl rfl (.h U0) ⟨.all, ?_⟩
     refine W ?_
     exact At.final0 rfl (List.nil_sublist _) (⟨rfl, rfl, by (rw [hst]; rfl)⟩) _ (.inr rfl)
    ·
     have hst := Dd.more_o (r := r) (by simpa using c1) (by simpa using c2) (by simpa using c4) (by simpa using c6)
     refine W ?_
     exact At.final0 rfl (List.nil_sublist _) (⟨rfl, rfl, by (rw [hst]; done)⟩) _ (.inr rfl)
theorem dd_Step {b ba n : Nat} {wv : Value} {x : Dd} {r : Rr} (hx : x.ok) (hn : r.w.length = n) (hN : n ≤ 1000000) (hf : r.few) (hw : r.mid 1152921504606846976) : Fn Tryz.prog 141 [.pointer (some ⟨b, 0, none⟩), .pointer (some ⟨ba, 0, none⟩)] ([]) ([ddB b x, raB ba wv r, raW wv n r]) (IsM (.bool (decide ((x.step r).1.line = 0))) [ddB b (x.step r).1, raB ba wv (x.step r).2, raW wv n (x.step r).2]) := by
 refine Fn.enter Tryz.func141 (by kernel_rfl) rfl (n := 168) rfl rfl (fun w => ?_)
 have hx0 := hx
 obtain ⟨hx1, hx2, hx3, hx4⟩ := hx
 refine Z ?_
 refine At.condD (.t rfl) (fun c1 => ?_) (fun c1 => ?_)
 ·
  have hl1 : x.line = 1 := (by simpa using c1); have hst := Dd.step_1 (r := r) hl1 
  refine W ?_
  refine At.drawL ([ddB b x]) [tt 0, tt 1, tt 2, tt 3, tt 4, tt 5, tt 6, tt 7, tt 8, tt 9] [] [ff 10] (keepOf sl) (by kernel_rfl) (by kernel_rfl) ?_
  refine V ?_
  refine At.stage kI ?_
  refine At.stage kz ?_
  refine cM rfl rfl rfl (.k rfl (.k rfl (.kc (.k rfl .nil)))) rfl (.h (.skip (.take (.take .nil)))) .nil (r_Swap (r := r) (i := x.chunk + 3) (o := 0) (x := x.chunk) hn hN hf) keysRa .nil ⟨kz, ?_⟩
  refine W ?_
  refine At.st1 rfl rfl sz_3 (.t rfl) .c rfl rfl (.h U0) ⟨.all, ?_⟩
  refine Y ?_
  exact fT rfl (.t rfl) (⟨by (rw [hst]; rfl), rfl, by (rw [hst]; rfl)⟩)
 ·
  refine Z ?_
  refine At.condD (.t rfl) (fun c2 => ?_) (fun c2 => ?_)
  ·
   have hl2 : x.line = 2 := (by simpa using c2); have hst := Dd.step_2 (r := r) hl2 
   refine W ?_
   refine cM rfl rfl rfl (.k rfl (.k rfl .nil)) rfl (.h (.skip (.take (.take .nil)))) .nil (r_Load (r := r) (i := x.chunk + 3) hn hN hf) keysRa .nil ⟨.all, ?_⟩
   refine W ?_
   refine At.st1 rfl rfl sz_3 (.t rfl) (.t rfl) rfl rfl (.h U0) ⟨.all, ?_⟩
   refine W ?_
   refine At.st1 rfl rfl sz_3 (.t rfl) .c rfl rfl (.h U0) ⟨.all, ?_⟩
   refine Y ?_
   exact fT rfl (.t rfl) (⟨by (rw [hst]; rfl), rfl, by (rw [hst]; rfl)⟩)
  ·
   refine Z ?_
   refine At.condD (.t rfl) (fun c3 => ?_) (fun c3 => ?_)
   ·
    have hl3 : x.line = 3 := (by simpa using c3)
    refine W ?_
    refine cM rfl rfl rfl (.k rfl (.k rfl .nil)) rfl (.h (.skip (.take (.take .nil)))) .nil (r_Load (r := r) (i := x.l + 2) hn hN hf) keysRa .nil ⟨.all, ?_⟩
    refine W ?_
    refine At.st1 rfl rfl sz_3 (.t rfl) (.t rfl) rfl rfl (.h U0) ⟨.all, ?_⟩
    refine W ?_
    refine At.st1 rfl rfl sz_3 (.t rfl) .c rfl rfl (.h U0) ⟨.all, ?_⟩
    refine W ?_
    refine At.callVR rfl rfl rfl (.k rfl .nil) (.nil) (fun hg => r_Marked) .all ?_
    refine W ?_
    refine At.condD (.t rfl) (fun c4 => ?_) (fun c4 => ?_)
    ·
     have hst := Dd.step_3a (r := r) hl3 (by simpa using c4)
     refine W ?_
     refine At.callVR rfl rfl rfl (.k rfl .nil) (.nil) (fun hg => r_At) .all ?_
     refine W ?_
     refine At.st1 rfl rfl sz_3 (.t rfl) (.t rfl) rfl rfl (.h U0) ⟨.all, ?_⟩
     refine W ?_
     refine At.st1 rfl rfl sz_3 (.t rfl) .c rfl rfl (.h U0) ⟨.all, ?_⟩
     refine Y ?_
     exact fT rfl (.t rfl) (⟨by (rw [hst]; rfl), rfl, by (rw [hst]; rfl)⟩)
    ·
     have hst := Dd.step_3b (r := r) hl3 (by simpa using c4)
     refine Y ?_
     exact fT rfl (.t rfl) (⟨by (rw [hst]; rfl), rfl, by (rw [hst]; rfl)⟩)
   ·
    refine Z ?_
    refine At.condD (.t rfl) (fun c5 => ?_) (fun c5 => ?_)
    ·
     have hl4 : x.line = 4 := (by simpa using c5); have hst := Dd.step_4 (r := r) hl4 
     refine W ?_
     refine At.drawL ([ddB b x]) [tt 0, tt 1, tt 2, tt 3, tt 4, tt 5, tt 6, tt 7, tt 8, tt 9, tt 10, tt 11, tt 12, tt 13, tt 14] [] [ff 15] (keepOf sl) (by kernel_rfl) (by kernel_rfl) ?_
     refine W ?_
     refine sC rfl kz (R.or1V (.t rfl) gO) ?_
     refine At.stage kI ?_
     refine At.stage kz ?_
     refine cM rfl rfl rfl (.k rfl (.k rfl (.k rfl (.k rfl .nil)))) rfl (.h (.skip (.take (.take .nil)))) .nil (r_Swap (r := r) (i := x.l + 2) (o := x.w) (x := orOne x.w) hn hN hf) keysRa .nil ⟨kz, ?_⟩
     refine W ?_
     refine At.st1 rfl rfl sz_3 (.t rfl) .c rfl rfl (.h U0) ⟨.all, ?_⟩
     refine Y ?_
     exact fT rfl (.t rfl) (⟨by (rw [hst]; rfl), rfl, by (rw [hst]; rfl)⟩)
    ·
     refine Z ?_
     refine At.condD (.t rfl) (fun c6 => ?_) (fun c6 => ?_)
     ·
      have hl5 : x.line = 5 := (by simpa using c6)
      refine W ?_
      refine cM rfl rfl rfl (.k rfl (.k rfl .nil)) rfl (.h (.skip (.take (.take .nil)))) .nil (r_Load (r := r) (i := x.l + 4) hn hN hf) keysRa .nil ⟨.all, ?_⟩
      refine W ?_
      refine At.st1 rfl rfl sz_3 (.t rfl) (.t rfl) rfl rfl (.h U0) ⟨.all, ?_⟩
      refine W ?_
      refine At.st1 rfl rfl sz_3 (.t rfl) .c rfl rfl (.h U0) ⟨.all, ?_⟩
      refine Z ?_
      refine At.condN (.t rfl) (fun c7 => ?_) (fun c7 => ?_)
      ·
       have hst := Dd.step_5a (r := r) hl5 (by simpa using c7)
       refine W ?_
       refine cM rfl rfl rfl (.k rfl .nil) rfl (.h (.take .nil)) .nil (dd_eight (x := (⟨x.th, x.cap, x.wd, x.ver, x.chunk, x.draw, x.drew, 6, x.l, x.n, x.w, (r.peek (x.l + 4)), x.alone, x.after⟩ : Dd))) rfl .nil ⟨.all, ?_⟩
       refine Z ?_
       exact fT rfl (.t rfl) (⟨by (rw [hst]; done), rfl, by (rw [hst]; done)⟩)
      ·
       have hst := Dd.step_5b (r := r) hl5 (by simpa using c7)
       refine Y ?_
       exact fT rfl (.t rfl) (⟨by (rw [hst]; rfl), rfl, by (rw [hst]; rfl)⟩)
     ·
      refine Z ?_
      refine At.condD (.t rfl) (fun c8 => ?_) (fun c8 => ?_)
      ·
       have hl6 : x.line = 6 := (by simpa using c8)
       refine Z ?_
       refine At.cond (.t rfl) (fun c9 => ?_) (fun c9 => ?_)
       ·
        have hst := Dd.step_6a (r := r) hl6 (by simpa using c9)
        refine W ?_
        refine cM rfl rfl rfl (.k rfl (.k rfl (.kc (.k rfl .nil)))) rfl (.h (.skip (.take (.take .nil)))) .nil (r_Swap (r := r) (i := x.l + 4) (o := 0) (x := x.n) hn hN hf) keysRa .nil ⟨.all, ?_⟩
        refine W ?_
        refine At.st1 rfl rfl sz_4 (.t rfl) .c rfl rfl (.h U0) ⟨.all, ?_⟩
        refine W ?_
        refine At.st1 rfl rfl sz_3 (.t rfl) .c rfl rfl (.h U0) ⟨.all, ?_⟩
        refine Y ?_
        exact fT rfl (.t rfl) (⟨by (rw [hst]; rfl), rfl, by (rw [hst]; rfl)⟩)
       ·
        have hst := Dd.step_6b (r := r) hl6 (by simpa using c9)
        refine W ?_
        refine cM rfl rfl rfl (.k rfl (.k rfl (.kc (.k rfl .nil)))) rfl (.h (.skip (.take (.take .nil)))) .nil (r_Swap (r := r) (i := x.l + 4) (o := 0) (x := 1) hn hN hf) keysRa .nil ⟨.all, ?_⟩
        refine W ?_
        refine At.st1 rfl rfl sz_4 (.t rfl) .c rfl rfl (.h U0) ⟨.all, ?_⟩
        refine W ?_
        refine At.st1 rfl rfl sz_3 (.t rfl) .c rfl rfl (.h U0) ⟨.all, ?_⟩
        refine Y ?_
        exact fT rfl (.t rfl) (⟨by (rw [hst]; rfl), rfl, by (rw [hst]; rfl)⟩)
      ·
       refine Z ?_
       refine At.condD (.t rfl) (fun c10 => ?_) (fun c10 => ?_)
       ·
        have hl7 : x.line = 7 := (by simpa using c10); have hst := Dd.step_7 (r := r) hl7 
        refine W ?_
        refine cM rfl rfl rfl (.k rfl (.k rfl .nil)) rfl (.h (.skip (.take (.take .nil)))) .nil (r_Load (r := r) (i := x.l + 4) hn hN hf) keysRa .nil ⟨.all, ?_⟩
        refine W ?_
        refine At.st1 rfl rfl sz_3 (.t rfl) (.t rfl) rfl rfl (.h U0) ⟨.all, ?_⟩
        refine W ?_
        refine cM rfl rfl rfl (.k rfl .nil) rfl (.h (.take .nil)) .nil (dd_eight (x := (⟨x.th, x.cap, x.wd, x.ver, x.chunk, x.draw, x.drew, x.line, x.l, x.n, x.w, (r.peek (x.l + 4)), x.alone, x.after⟩ : Dd))) rfl .nil ⟨.all, ?_⟩
        refine Z ?_
        exact fT rfl (.t rfl) (⟨by (rw [hst]; done), rfl, by (rw [hst]; done)⟩)
       ·
        have hst := Dd.step_o (r := r) (by simpa using c1) (by simpa using c2) (by simpa using c3) (by simpa using c5) (by simpa using c6) (by simpa using c8) (by simpa using c10)
        refine W ?_
        refine cM rfl rfl rfl (.k rfl (.k rfl .nil)) rfl (.h (.take (.take (.take .nil)))) .nil (dd_more (x := x) (r := r) hx0 hn hN hf hw) keysDd .nil ⟨.all, ?_⟩
        refine Z ?_
        exact fT rfl (.t rfl) (⟨by (rw [hst]; done), rfl, by (rw [hst]; done)⟩)
theorem dd_Chunks {b : Nat} {x : Dd} : Fn Tryz.prog 142 [.pointer (some ⟨b, 0, none⟩)] ([ddB b x]) ([]) (IsV (.tuple #[.int .i64 x.ch1, .int .i64 x.ch2, .int .i64 x.ch3])) := by
 refine Fn.enter Tryz.func142 (by kernel_rfl) rfl (n := 34) rfl rfl (fun w => ?_)
 refine Z ?_
 refine At.condN (.t rfl) (fun c1 => ?_) (fun c1 => ?_)
 ·
  have hz : ¬ x.line = 0 := (by simpa using c1)
  refine W ?_
  exact At.final3 rfl (.t rfl) (.t rfl) (.t rfl) (List.nil_sublist _) (⟨by unfold Dd.ch1 Dd.ch2 Dd.ch3; (rw [if_neg hz, if_neg hz, if_neg hz]; done), rfl, rfl⟩)
 ·
  have hz : x.line = 0 := (by simpa using c1)
  refine W ?_
  refine At.cond (.t rfl) (fun c2 => ?_) (fun c2 => ?_)
  ·
   refine W ?_
   refine At.drawK [tt 0, tt 1, tt 2, tt 3, tt 4, tt 5, tt 6, tt 7, tt 8, tt 9, tt 10] (by kernel_rfl) (by kernel_rfl) ?_
   refine W ?_
   exact At.final3 rfl (.t rfl) (.t rfl) (.t rfl) (List.nil_sublist _) (⟨by unfold Dd.ch1 Dd.ch2 Dd.ch3; (rw [if_pos hz, if_pos hz, if_pos hz, if_pos c2]; rfl), rfl, rfl⟩)
  ·
   refine W ?_
   refine At.drawK [tt 0, tt 1, tt 2, tt 3, tt 4, tt 5, tt 6, tt 7, tt 8, tt 9, tt 10, tt 11, tt 12, tt 13, tt 14] (by kernel_rfl) (by kernel_rfl) ?_
   refine W ?_
   exact At.final3 rfl (.t rfl) (.t rfl) (.t rfl) (List.nil_sublist _) (⟨by unfold Dd.ch1 Dd.ch2 Dd.ch3; (rw [if_pos hz, if_pos hz, if_pos hz, if_neg (by simpa using c2)]; rfl), rfl, rfl⟩)
end Go.Proofs.YtbolanigdkgbdaaGreat
namespace Go.Proofs.YtbolanigdkgbdaaGreat
open Go Go.RowKit
set_option maxRecDepth 10000
set_option linter.unusedVariables false
set_option maxHeartbeats 1000000
theorem bt_215 : buildTab Tryz.prog 215 = some (#[.int .i64 0, .int .i64 0, .int .i64 0, .int .i64 0, .int .i64 0, .int .i64 0, .int .i64 0, .int .i64 0, .int .i64 0], [(0, 4), (4, 1), (5, 1), (6, 1), (7, 1), (8, 1)]) := by kernel_rfl
theorem bt_226 : buildTab Tryz.prog 226 = some (#[.int .i64 0, .int .i64 0, .int .i64 0, .int .i64 0, .int .i64 0, .int .i64 0, .int .i64 0, .int .i64 0, .int .i64 0, .int .i64 0, .int .i64 0, .int .i64 0, .int .i64 0], [(0, 4), (4, 1), (5, 1), (6, 1), (7, 1), (8, 1), (9, 1), (10, 1), (11, 1), (12, 1)]) := by kernel_rfl
theorem fo_215_0 : fieldOff? Tryz.prog 215 0 = some 0 := by kernel_rfl
theorem fo_215_1 : fieldOff? Tryz.prog 215 1 = some 4 := by kernel_rfl
theorem fo_215_2 : fieldOff? Tryz.prog 215 2 = some 5 := by kernel_rfl
theorem fo_215_3 : fieldOff? Tryz.prog 215 3 = some 6 := by kernel_rfl
theorem fo_215_4 : fieldOff? Tryz.prog 215 4 = some 7 := by kernel_rfl
theorem fo_215_5 : fieldOff? Tryz.prog 215 5 = some 8 := by kernel_rfl
theorem fo_226_0 : fieldOff? Tryz.prog 226 0 = some 0 := by kernel_rfl
theorem fo_226_1 : fieldOff? Tryz.prog 226 1 = some 4 := by kernel_rfl
theorem fo_226_2 : fieldOff? Tryz.prog 226 2 = some 5 := by kernel_rfl
theorem fo_226_3 : fieldOff? Tryz.prog 226 3 = some 6 := by kernel_rfl
theorem fo_226_4 : fieldOff? Tryz.prog 226 4 = some 7 := by kernel_rfl
theorem fo_226_5 : fieldOff? Tryz.prog 226 5 = some 8 := by kernel_rfl
theorem fo_226_6 : fieldOff? Tryz.prog 226 6 = some 9 := by kernel_rfl
theorem fo_226_7 : fieldOff? Tryz.prog 226 7 = some 10 := by kernel_rfl
theorem fo_226_8 : fieldOff? Tryz.prog 226 8 = some 11 := by kernel_rfl
theorem fo_226_9 : fieldOff? Tryz.prog 226 9 = some 12 := by kernel_rfl
def cellAtD (cap chunk mate i : Int) : Int := if i < cap then chunk + 7 + 3 * i else mate + 7 + 3 * (i - cap)
def cellsD (cap mate : Int) : Int := if mate = 0 then cap else 2 * cap
structure Dq where
  th : Int
  cap : Int
  wd : Int
  ver : Int
  chunk : Int
  mate : Int
  line : Int
  i : Int
  g : Int
abbrev dqC (x : Dq) : Array Value := #[.int .i64 x.th, .int .i64 x.cap, .int .i64 x.wd, .int .i64 x.ver, .int .i64 x.chunk, .int .i64 x.mate, .int .i64 x.line, .int .i64 x.i, .int .i64 x.g]
abbrev dqB (b : Nat) (x : Dq) : Ent := .blk b (.cells (dqC x) 215)
structure Dq.ok (x : Dq) : Prop where
  chunk : -1152921504606846976 ≤ x.chunk ∧ x.chunk ≤ 1152921504606846976
  mm : -1152921504606846976 ≤ x.mate ∧ x.mate ≤ 1152921504606846976
  ii : 0 ≤ x.i ∧ x.i ≤ 900
  cc : 0 ≤ x.cap ∧ x.cap ≤ 100
structure Dp where
  th : Int
  cap : Int
  wd : Int
  ver : Int
  chunk : Int
  mate : Int
  repl : Int
  line : Int
  m : Int
  cur : Int
  w : Int
  n : Int
  stuck : Int
abbrev dpC (x : Dp) : Array Value := #[.int .i64 x.th, .int .i64 x.cap, .int .i64 x.wd, .int .i64 x.ver, .int .i64 x.chunk, .int .i64 x.mate, .int .i64 x.repl, .int .i64 x.line, .int .i64 x.m, .int .i64 x.cur, .int .i64 x.w, .int .i64 x.n, .int .i64 x.stuck]
abbrev dpB (b : Nat) (x : Dp) : Ent := .blk b (.cells (dpC x) 226)
structure Dp.ok (x : Dp) : Prop where
  tt : 0 ≤ x.th ∧ x.th ≤ 1000000
  chunk : -1152921504606846976 ≤ x.chunk ∧ x.chunk ≤ 1152921504606846976
  mm : -1152921504606846976 ≤ x.mate ∧ x.mate ≤ 1152921504606846976
  cu : -1152921504606846976 ≤ x.cur ∧ x.cur ≤ 1152921504606846976
  nn : -1152921504606846976 ≤ x.n ∧ x.n ≤ 1152921504606846976
abbrev Dp.head (x : Dp) : Dp := (⟨x.th, x.cap, x.wd, x.ver, x.chunk, x.mate, x.repl, 3, x.m, (7 + x.th), x.w, x.n, x.stuck⟩ : Dp)
def Dq.step (x : Dq) (r : Rr) : Dq × Rr :=
  if x.line = 1 then if ¬ x.mate = 0 then ((⟨x.th, x.cap, x.wd, x.ver, x.chunk, x.mate, 2, x.i, x.g⟩ : Dq), r.store (x.chunk + 6) 1) else ((⟨x.th, x.cap, x.wd, x.ver, x.chunk, x.mate, 3, x.i, x.g⟩ : Dq), r.store (x.chunk + 6) 1)
  else if x.line = 2 then ((⟨x.th, x.cap, x.wd, x.ver, x.chunk, x.mate, 3, x.i, x.g⟩ : Dq), r.store (x.mate + 6) 1)
  else if x.line = 3 then if (r.peek (cellAtD x.cap x.chunk x.mate x.i)) = 0 then ((⟨x.th, x.cap, x.wd, x.ver, x.chunk, x.mate, 4, x.i, x.g⟩ : Dq), r.load (cellAtD x.cap x.chunk x.mate x.i)) else if (r.peek (cellAtD x.cap x.chunk x.mate x.i)) = 1 then ((⟨x.th, x.cap, x.wd, x.ver, x.chunk, x.mate, 5, x.i, x.g⟩ : Dq), r.load (cellAtD x.cap x.chunk x.mate x.i)) else if cellsD x.cap x.mate ≤ x.i + 1 then ((⟨x.th, x.cap, x.wd, x.ver, x.chunk, x.mate, 0, (x.i + 1), x.g⟩ : Dq), r.load (cellAtD x.cap x.chunk x.mate x.i)) else ((⟨x.th, x.cap, x.wd, x.ver, x.chunk, x.mate, x.line, (x.i + 1), x.g⟩ : Dq), r.load (cellAtD x.cap x.chunk x.mate x.i))
  else if x.line = 4 then ((⟨x.th, x.cap, x.wd, x.ver, x.chunk, x.mate, 3, x.i, x.g⟩ : Dq), r.swap (cellAtD x.cap x.chunk x.mate x.i) 0 2)
  else if x.line = 5 then ((⟨x.th, x.cap, x.wd, x.ver, x.chunk, x.mate, 6, x.i, (r.peek 1)⟩ : Dq), r.load 1)
  else if x.line = 6 then ((⟨x.th, x.cap, x.wd, x.ver, x.chunk, x.mate, 3, x.i, x.g⟩ : Dq), r.swap (cellAtD x.cap x.chunk x.mate x.i) 1 (min (max x.g 0) 16777212 + 3))
  else (x, r)
theorem Dq.step_1a {x : Dq} {r : Rr} (h : x.line = 1) (h0 : ¬ x.mate = 0) : Dq.step x r = ((⟨x.th, x.cap, x.wd, x.ver, x.chunk, x.mate, 2, x.i, x.g⟩ : Dq), r.store (x.chunk + 6) 1) := by unfold Dq.step; rw [if_pos h, if_pos h0]
theorem Dq.step_1b {x : Dq} {r : Rr} (h : x.line = 1) (h0 : ¬ (¬ x.mate = 0)) : Dq.step x r = ((⟨x.th, x.cap, x.wd, x.ver, x.chunk, x.mate, 3, x.i, x.g⟩ : Dq), r.store (x.chunk + 6) 1) := by unfold Dq.step; rw [if_pos h, if_neg h0]
theorem Dq.step_2 {x : Dq} {r : Rr} (h : x.line = 2)  : Dq.step x r = ((⟨x.th, x.cap, x.wd, x.ver, x.chunk, x.mate, 3, x.i, x.g⟩ : Dq), r.store (x.mate + 6) 1) := by unfold Dq.step; rw [if_neg (by omega), if_pos h]
theorem Dq.step_3a {x : Dq} {r : Rr} (h : x.line = 3) (h0 : (r.peek (cellAtD x.cap x.chunk x.mate x.i)) = 0) : Dq.step x r = ((⟨x.th, x.cap, x.wd, x.ver, x.chunk, x.mate, 4, x.i, x.g⟩ : Dq), r.load (cellAtD x.cap x.chunk x.mate x.i)) := by unfold Dq.step; rw [if_neg (by omega), if_neg (by omega), if_pos h, if_pos h0]
theorem Dq.step_3b {x : Dq} {r : Rr} (h : x.line = 3) (h0 : ¬ ((r.peek (cellAtD x.cap x.chunk x.mate x.i)) = 0)) (h1 : (r.peek (cellAtD x.cap x.chunk x.mate x.i)) = 1) : Dq.step x r = ((⟨x.th, x.cap, x.wd, x.ver, x.chunk, x.mate, 5, x.i, x.g⟩ : Dq), r.load (cellAtD x.cap x.chunk x.mate x.i)) := by unfold Dq.step; rw [if_neg (by omega), if_neg (by omega), if_pos h, if_neg h0, if_pos h1]
theorem Dq.step_3c {x : Dq} {r : Rr} (h : x.line = 3) (h0 : ¬ ((r.peek (cellAtD x.cap x.chunk x.mate x.i)) = 0)) (h1 : ¬ ((r.peek (cellAtD x.cap x.chunk x.mate x.i)) = 1)) (h2 : cellsD x.cap x.mate ≤ x.i + 1) : Dq.step x r = ((⟨x.th, x.cap, x.wd, x.ver, x.chunk, x.mate, 0, (x.i + 1), x.g⟩ : Dq), r.load (cellAtD x.cap x.chunk x.mate x.i)) := by unfold Dq.step; rw [if_neg (by omega), if_neg (by omega), if_pos h, if_neg h0, if_neg h1, if_pos h2]
theorem Dq.step_3d {x : Dq} {r : Rr} (h : x.line = 3) (h0 : ¬ ((r.peek (cellAtD x.cap x.chunk x.mate x.i)) = 0)) (h1 : ¬ ((r.peek (cellAtD x.cap x.chunk x.mate x.i)) = 1)) (h2 : ¬ (cellsD x.cap x.mate ≤ x.i + 1)) : Dq.step x r = ((⟨x.th, x.cap, x.wd, x.ver, x.chunk, x.mate, x.line, (x.i + 1), x.g⟩ : Dq), r.load (cellAtD x.cap x.chunk x.mate x.i)) := by unfold Dq.step; rw [if_neg (by omega), if_neg (by omega), if_pos h, if_neg h0, if_neg h1, if_neg h2]
theorem Dq.step_4 {x : Dq} {r : Rr} (h : x.line = 4)  : Dq.step x r = ((⟨x.th, x.cap, x.wd, x.ver, x.chunk, x.mate, 3, x.i, x.g⟩ : Dq), r.swap (cellAtD x.cap x.chunk x.mate x.i) 0 2) := by unfold Dq.step; rw [if_neg (by omega), if_neg (by omega), if_neg (by omega), if_pos h]
theorem Dq.step_5 {x : Dq} {r : Rr} (h : x.line = 5)  : Dq.step x r = ((⟨x.th, x.cap, x.wd, x.ver, x.chunk, x.mate, 6, x.i, (r.peek 1)⟩ : Dq), r.load 1) := by unfold Dq.step; rw [if_neg (by omega), if_neg (by omega), if_neg (by omega), if_neg (by omega), if_pos h]
theorem Dq.step_6 {x : Dq} {r : Rr} (h : x.line = 6)  : Dq.step x r = ((⟨x.th, x.cap, x.wd, x.ver, x.chunk, x.mate, 3, x.i, x.g⟩ : Dq), r.swap (cellAtD x.cap x.chunk x.mate x.i) 1 (min (max x.g 0) 16777212 + 3)) := by unfold Dq.step; rw [if_neg (by omega), if_neg (by omega), if_neg (by omega), if_neg (by omega), if_neg (by omega), if_pos h]
theorem Dq.step_o {x : Dq} {r : Rr} (h1 : ¬ x.line = 1) (h2 : ¬ x.line = 2) (h3 : ¬ x.line = 3) (h4 : ¬ x.line = 4) (h5 : ¬ x.line = 5) (h6 : ¬ x.line = 6) : Dq.step x r = (x, r) := by unfold Dq.step; rw [if_neg h1, if_neg h2, if_neg h3, if_neg h4, if_neg h5, if_neg h6]
def Dp.step (x : Dp) (r : Rr) : Dp × Rr :=
  if x.line = 1 then ((⟨x.th, x.cap, x.wd, x.ver, x.chunk, x.mate, x.repl, x.line, (r.peek x.chunk), x.cur, x.w, x.n, x.stuck⟩ : Dp).head, r.load x.chunk)
  else if x.line = 3 then if (r.peek (x.cur + 2)) % 2 = 1 then ((⟨x.th, x.cap, x.wd, x.ver, x.chunk, x.mate, x.repl, 0, x.m, x.cur, (r.peek (x.cur + 2)), ((r.peek (x.cur + 2)) / 2), x.cur⟩ : Dp), r.load (x.cur + 2)) else if (r.peek (x.cur + 2)) / 2 = 0 then ((⟨x.th, x.cap, x.wd, x.ver, x.chunk, x.mate, x.repl, 6, x.m, x.cur, (r.peek (x.cur + 2)), ((r.peek (x.cur + 2)) / 2), x.stuck⟩ : Dp), r.load (x.cur + 2)) else if (r.peek (x.cur + 2)) / 2 = x.chunk then ((⟨x.th, x.cap, x.wd, x.ver, x.chunk, x.mate, x.repl, 4, x.m, x.cur, (r.peek (x.cur + 2)), ((r.peek (x.cur + 2)) / 2), x.stuck⟩ : Dp), r.load (x.cur + 2)) else ((⟨x.th, x.cap, x.wd, x.ver, x.chunk, x.mate, x.repl, 5, x.m, x.cur, (r.peek (x.cur + 2)), ((r.peek (x.cur + 2)) / 2), x.stuck⟩ : Dp), r.load (x.cur + 2))
  else if x.line = 4 then if r.swaps (x.cur + 2) x.w = true then ((⟨x.th, x.cap, x.wd, x.ver, x.chunk, x.mate, x.repl, 6, x.m, x.cur, x.w, x.n, x.stuck⟩ : Dp), r.swap (x.cur + 2) x.w (nextD x.repl false)) else (x.head, r.swap (x.cur + 2) x.w (nextD x.repl false))
  else if x.line = 5 then if x.m ≤ r.peek x.n then ((⟨x.th, x.cap, x.wd, x.ver, x.chunk, x.mate, x.repl, 6, x.m, x.cur, x.w, x.n, x.stuck⟩ : Dp), r.load x.n) else ((⟨x.th, x.cap, x.wd, x.ver, x.chunk, x.mate, x.repl, 3, x.m, x.n, x.w, x.n, x.stuck⟩ : Dp), r.load x.n)
  else if x.line = 6 then if ¬ x.mate = 0 then ((⟨x.th, x.cap, x.wd, x.ver, x.chunk, x.mate, x.repl, 7, x.m, x.cur, x.w, x.n, x.stuck⟩ : Dp), r.store (x.chunk + 6) 2) else ((⟨x.th, x.cap, x.wd, x.ver, x.chunk, x.mate, x.repl, 8, x.m, x.cur, x.w, x.n, x.stuck⟩ : Dp), r.store (x.chunk + 6) 2)
  else if x.line = 7 then ((⟨x.th, x.cap, x.wd, x.ver, x.chunk, x.mate, x.repl, 8, x.m, x.cur, x.w, x.n, x.stuck⟩ : Dp), r.store (x.mate + 6) 2)
  else if x.line = 8 then ((⟨x.th, x.cap, x.wd, x.ver, x.chunk, x.mate, x.repl, 0, x.m, x.cur, x.w, x.n, x.stuck⟩ : Dp), r.store (3 + x.th + max 0 (min x.m 63) / 16) x.repl)
  else (x, r)
theorem Dp.step_1 {x : Dp} {r : Rr} (h : x.line = 1)  : Dp.step x r = ((⟨x.th, x.cap, x.wd, x.ver, x.chunk, x.mate, x.repl, x.line, (r.peek x.chunk), x.cur, x.w, x.n, x.stuck⟩ : Dp).head, r.load x.chunk) := by unfold Dp.step; rw [if_pos h]
theorem Dp.step_3a {x : Dp} {r : Rr} (h : x.line = 3) (h0 : (r.peek (x.cur + 2)) % 2 = 1) : Dp.step x r = ((⟨x.th, x.cap, x.wd, x.ver, x.chunk, x.mate, x.repl, 0, x.m, x.cur, (r.peek (x.cur + 2)), ((r.peek (x.cur + 2)) / 2), x.cur⟩ : Dp), r.load (x.cur + 2)) := by unfold Dp.step; rw [if_neg (by omega), if_pos h, if_pos h0]
theorem Dp.step_3b {x : Dp} {r : Rr} (h : x.line = 3) (h0 : ¬ ((r.peek (x.cur + 2)) % 2 = 1)) (h1 : (r.peek (x.cur + 2)) / 2 = 0) : Dp.step x r = ((⟨x.th, x.cap, x.wd, x.ver, x.chunk, x.mate, x.repl, 6, x.m, x.cur, (r.peek (x.cur + 2)), ((r.peek (x.cur + 2)) / 2), x.stuck⟩ : Dp), r.load (x.cur + 2)) := by unfold Dp.step; rw [if_neg (by omega), if_pos h, if_neg h0, if_pos h1]
theorem Dp.step_3c {x : Dp} {r : Rr} (h : x.line = 3) (h0 : ¬ ((r.peek (x.cur + 2)) % 2 = 1)) (h1 : ¬ ((r.peek (x.cur + 2)) / 2 = 0)) (h2 : (r.peek (x.cur + 2)) / 2 = x.chunk) : Dp.step x r = ((⟨x.th, x.cap, x.wd, x.ver, x.chunk, x.mate, x.repl, 4, x.m, x.cur, (r.peek (x.cur + 2)), ((r.peek (x.cur + 2)) / 2), x.stuck⟩ : Dp), r.load (x.cur + 2)) := by unfold Dp.step; rw [if_neg (by omega), if_pos h, if_neg h0, if_neg h1, if_pos h2]
theorem Dp.step_3d {x : Dp} {r : Rr} (h : x.line = 3) (h0 : ¬ ((r.peek (x.cur + 2)) % 2 = 1)) (h1 : ¬ ((r.peek (x.cur + 2)) / 2 = 0)) (h2 : ¬ ((r.peek (x.cur + 2)) / 2 = x.chunk)) : Dp.step x r = ((⟨x.th, x.cap, x.wd, x.ver, x.chunk, x.mate, x.repl, 5, x.m, x.cur, (r.peek (x.cur + 2)), ((r.peek (x.cur + 2)) / 2), x.stuck⟩ : Dp), r.load (x.cur + 2)) := by unfold Dp.step; rw [if_neg (by omega), if_pos h, if_neg h0, if_neg h1, if_neg h2]
theorem Dp.step_4a {x : Dp} {r : Rr} (h : x.line = 4) (h0 : r.swaps (x.cur + 2) x.w = true) : Dp.step x r = ((⟨x.th, x.cap, x.wd, x.ver, x.chunk, x.mate, x.repl, 6, x.m, x.cur, x.w, x.n, x.stuck⟩ : Dp), r.swap (x.cur + 2) x.w (nextD x.repl false)) := by unfold Dp.step; rw [if_neg (by omega), if_neg (by omega), if_pos h, if_pos h0]
theorem Dp.step_4b {x : Dp} {r : Rr} (h : x.line = 4) (h0 : ¬ (r.swaps (x.cur + 2) x.w = true)) : Dp.step x r = (x.head, r.swap (x.cur + 2) x.w (nextD x.repl false)) := by unfold Dp.step; rw [if_neg (by omega), if_neg (by omega), if_pos h, if_neg h0]
theorem Dp.step_5a {x : Dp} {r : Rr} (h : x.line = 5) (h0 : x.m ≤ r.peek x.n) : Dp.step x r = ((⟨x.th, x.cap, x.wd, x.ver, x.chunk, x.mate, x.repl, 6, x.m, x.cur, x.w, x.n, x.stuck⟩ : Dp), r.load x.n) := by unfold Dp.step; rw [if_neg (by omega), if_neg (by omega), if_neg (by omega), if_pos h, if_pos h0]
theorem Dp.step_5b {x : Dp} {r : Rr} (h : x.line = 5) (h0 : ¬ (x.m ≤ r.peek x.n)) : Dp.step x r = ((⟨x.th, x.cap, x.wd, x.ver, x.chunk, x.mate, x.repl, 3, x.m, x.n, x.w, x.n, x.stuck⟩ : Dp), r.load x.n) := by unfold Dp.step; rw [if_neg (by omega), if_neg (by omega), if_neg (by omega), if_pos h, if_neg h0]
theorem Dp.step_6a {x : Dp} {r : Rr} (h : x.line = 6) (h0 : ¬ x.mate = 0) : Dp.step x r = ((⟨x.th, x.cap, x.wd, x.ver, x.chunk, x.mate, x.repl, 7, x.m, x.cur, x.w, x.n, x.stuck⟩ : Dp), r.store (x.chunk + 6) 2) := by unfold Dp.step; rw [if_neg (by omega), if_neg (by omega), if_neg (by omega), if_neg (by omega), if_pos h, if_pos h0]
theorem Dp.step_6b {x : Dp} {r : Rr} (h : x.line = 6) (h0 : ¬ (¬ x.mate = 0)) : Dp.step x r = ((⟨x.th, x.cap, x.wd, x.ver, x.chunk, x.mate, x.repl, 8, x.m, x.cur, x.w, x.n, x.stuck⟩ : Dp), r.store (x.chunk + 6) 2) := by unfold Dp.step; rw [if_neg (by omega), if_neg (by omega), if_neg (by omega), if_neg (by omega), if_pos h, if_neg h0]
theorem Dp.step_7 {x : Dp} {r : Rr} (h : x.line = 7)  : Dp.step x r = ((⟨x.th, x.cap, x.wd, x.ver, x.chunk, x.mate, x.repl, 8, x.m, x.cur, x.w, x.n, x.stuck⟩ : Dp), r.store (x.mate + 6) 2) := by unfold Dp.step; rw [if_neg (by omega), if_neg (by omega), if_neg (by omega), if_neg (by omega), if_neg (by omega), if_pos h]
theorem Dp.step_8 {x : Dp} {r : Rr} (h : x.line = 8)  : Dp.step x r = ((⟨x.th, x.cap, x.wd, x.ver, x.chunk, x.mate, x.repl, 0, x.m, x.cur, x.w, x.n, x.stuck⟩ : Dp), r.store (3 + x.th + max 0 (min x.m 63) / 16) x.repl) := by unfold Dp.step; rw [if_neg (by omega), if_neg (by omega), if_neg (by omega), if_neg (by omega), if_neg (by omega), if_neg (by omega), if_pos h]
theorem Dp.step_o {x : Dp} {r : Rr} (h1 : ¬ x.line = 1) (h3 : ¬ x.line = 3) (h4 : ¬ x.line = 4) (h5 : ¬ x.line = 5) (h6 : ¬ x.line = 6) (h7 : ¬ x.line = 7) (h8 : ¬ x.line = 8) : Dp.step x r = (x, r) := by unfold Dp.step; rw [if_neg h1, if_neg h3, if_neg h4, if_neg h5, if_neg h6, if_neg h7, if_neg h8]
theorem d_cellAt {a b c d chunk mate i : Int} (h0 : -1152921504606846976 ≤ chunk ∧ chunk ≤ 1152921504606846976) (h1 : -1152921504606846976 ≤ mate ∧ mate ≤ 1152921504606846976) (h2 : -1000 ≤ i ∧ i ≤ 1000) (h3 : 0 ≤ b ∧ b ≤ 1000) : Fn Tryz.prog 164 [.agg #[.int .i64 a, .int .i64 b, .int .i64 c, .int .i64 d], .int .i64 chunk, .int .i64 mate, .int .i64 i] ([]) ([]) (IsV (.int .i64 (cellAtD b chunk mate i))) := by
 refine Fn.enter Tryz.func164 (by kernel_rfl) rfl (n := 22) rfl rfl (fun w => ?_)
 refine W ?_
 refine At.box rfl rfl rfl (.t rfl) (fun b1 hb1 => ⟨.all, ?_⟩)
 refine Z ?_
 refine At.condD (.t rfl) (fun c1 => ?_) (fun c1 => ?_)
 ·
  refine W ?_
  refine At.callVR rfl rfl rfl (.k rfl (.k rfl .nil)) (.nil) (fun hg => r_StateAt (by omega) (by omega)) .all ?_
  refine W ?_
  exact fT rfl (.t rfl) (⟨congrArg (Value.int .i64) (by unfold cellAtD; rw [if_pos c1]), rfl, rfl⟩)
 ·
  refine W ?_
  refine At.callVR rfl rfl rfl (.k rfl (.k rfl .nil)) (.nil) (fun hg => r_StateAt (by omega) (by omega)) .all ?_
  refine W ?_
  exact fT rfl (.t rfl) (⟨congrArg (Value.int .i64) (by unfold cellAtD; rw [if_neg c1]), rfl, rfl⟩)
theorem d_cells {a b c d mate : Int} (h3 : 0 ≤ b ∧ b ≤ 1000) : Fn Tryz.prog 165 [.agg #[.int .i64 a, .int .i64 b, .int .i64 c, .int .i64 d], .int .i64 mate] ([]) ([]) (IsV (.int .i64 (cellsD b mate))) := by
 refine Fn.enter Tryz.func165 (by kernel_rfl) rfl (n := 12) rfl rfl (fun w => ?_)
 refine W ?_
 refine At.box rfl rfl rfl (.t rfl) (fun b1 hb1 => ⟨.all, ?_⟩)
 refine Z ?_
 refine At.condD (.t rfl) (fun c1 => ?_) (fun c1 => ?_)
 ·
  refine W ?_
  exact fT rfl (.t rfl) (⟨congrArg (Value.int .i64) (by unfold cellsD; rw [if_pos c1]), rfl, rfl⟩)
 ·
  refine W ?_
  exact fT rfl (.t rfl) (⟨congrArg (Value.int .i64) (by unfold cellsD; rw [if_neg c1]), rfl, rfl⟩)
theorem dq_New {a b c d chunk mate : Int} : Fn Tryz.prog 143 [.agg #[.int .i64 a, .int .i64 b, .int .i64 c, .int .i64 d], .int .i64 chunk, .int .i64 mate] ([]) ([]) (fun v N H => ∃ b1, v = .pointer (some ⟨b1, 0, none⟩) ∧ N = [dqB b1 (⟨a, b, c, d, chunk, mate, 1, 0, 0⟩ : Dq)] ∧ H = []) := by
 refine Fn.enter Tryz.func143 (by kernel_rfl) rfl (n := 12) rfl rfl (fun w => ?_)
 refine W ?_
 refine At.box rfl rfl rfl (.t rfl) (fun b1 hb1 => ⟨.all, ?_⟩)
 refine W ?_
 refine eA rfl (R.build bt_215 (.k rfl (.k rfl (.k rfl (.kc .nil)))) (.cons rfl (.cons rfl (.cons rfl (.cons rfl .nil)))) rfl) ?_
 refine At.box rfl rfl rfl (.t rfl) (fun b2 hb2 => ⟨.all, ?_⟩)
 refine W ?_
 exact At.final (N' := [dqB b2 (⟨a, b, c, d, chunk, mate, 1, 0, 0⟩ : Dq)]) rfl (.t rfl) sl (⟨b2, rfl, rfl, rfl⟩)
theorem dq_Step {b ba n : Nat} {wv : Value} {x : Dq} {r : Rr} (hx : x.ok) (hn : r.w.length = n) (hN : n ≤ 1000000) (hf : r.few) (hw : r.mid 1152921504606846976) : Fn Tryz.prog 144 [.pointer (some ⟨b, 0, none⟩), .pointer (some ⟨ba, 0, none⟩)] ([]) ([dqB b x, raB ba wv r, raW wv n r]) (IsM (.bool (decide ((x.step r).1.line = 0))) [dqB b (x.step r).1, raB ba wv (x.step r).2, raW wv n (x.step r).2]) := by
 refine Fn.enter Tryz.func144 (by kernel_rfl) rfl (n := 135) rfl rfl (fun w => ?_)
 have hx0 := hx
 obtain ⟨hx1, hx2, hx3, hx4⟩ := hx
 have hln : x.line = 3 → x.i + 1 ≤ 1000 := fun h => by omega
 refine W ?_
 refine At.drawK [tt 0, tt 1, tt 2, tt 3, tt 4, tt 5, tt 6, tt 7, tt 8, tt 9, tt 10, tt 11, tt 12, tt 13, tt 14, tt 15, ff 16, tt 17] (by kernel_rfl) (by kernel_rfl) ?_
 refine W ?_
 refine At.callVR rfl rfl rfl (.k rfl (.k rfl (.k rfl (.k rfl .nil)))) (.nil) (fun hg => d_cellAt (by omega) (by omega) (by omega) (by omega)) kI ?_
 refine Z ?_
 refine At.condD (.t rfl) (fun c1 => ?_) (fun c1 => ?_)
 ·
  have hl1 : x.line = 1 := (by simpa using c1)
  refine W ?_
  refine cM rfl rfl rfl (.k rfl (.k rfl (.kc .nil))) rfl (.h (.skip (.take (.take .nil)))) .nil (r_Store (r := r) (i := x.chunk + 6) (x := 1) hn hN hf) keysRa .nil ⟨.all, ?_⟩
  refine W ?_
  refine At.st1 rfl rfl sz_3 (.t rfl) .c rfl rfl (.h U0) ⟨.all, ?_⟩
  refine Z ?_
  refine At.condN (.t rfl) (fun c2 => ?_) (fun c2 => ?_)
  ·
   have hst := Dq.step_1a (r := r) hl1 (by simpa using c2)
   refine W ?_
   refine At.st1 rfl rfl sz_3 (.t rfl) .c rfl rfl (.h U0) ⟨.all, ?_⟩
   refine Y ?_
   exact fT rfl (.t rfl) (⟨by (rw [hst]; rfl), rfl, by (rw [hst]; rfl)⟩)
  ·
   have hst := Dq.step_1b (r := r) hl1 (by simpa using c2)
   refine Y ?_
   exact fT rfl (.t rfl) (⟨by (rw [hst]; rfl), rfl, by (rw [hst]; rfl)⟩)
 ·
  refine Z ?_
  refine At.condD (.t rfl) (fun c3 => ?_) (fun c3 => ?_)
  ·
   have hl2 : x.line = 2 := (by simpa using c3); have hst := Dq.step_2 (r := r) hl2 
   refine W ?_
   refine cM rfl rfl rfl (.k rfl (.k rfl (.kc .nil))) rfl (.h (.skip (.take (.take .nil)))) .nil (r_Store (r := r) (i := x.mate + 6) (x := 1) hn hN hf) keysRa .nil ⟨.all, ?_⟩
   refine W ?_
   refine At.st1 rfl rfl sz_3 (.t rfl) .c rfl rfl (.h U0) ⟨.all, ?_⟩
   refine Y ?_
   exact fT rfl (.t rfl) (⟨by (rw [hst]; rfl), rfl, by (rw [hst]; rfl)⟩)
  ·
   refine Z ?_
   refine At.condD (.t rfl) (fun c4 => ?_) (fun c4 => ?_)
   ·
    have hl3 : x.line = 3 := (by simpa using c4)
    refine W ?_
    refine cM rfl rfl rfl (.k rfl (.k rfl .nil)) rfl (.h (.skip (.take (.take .nil)))) .nil (r_Load (r := r) (i := (cellAtD x.cap x.chunk x.mate x.i)) hn hN hf) keysRa .nil ⟨.all, ?_⟩
    refine Z ?_
    refine At.condD (.t rfl) (fun c5 => ?_) (fun c5 => ?_)
    ·
     have hst := Dq.step_3a (r := r) hl3 (by simpa using c5)
     refine W ?_
     refine At.st1 rfl rfl sz_3 (.t rfl) .c rfl rfl (.h U0) ⟨.all, ?_⟩
     refine Y ?_
     exact fT rfl (.t rfl) (⟨by (rw [hst]; rfl), rfl, by (rw [hst]; rfl)⟩)
    ·
     refine Z ?_
     refine At.condD (.t rfl) (fun c6 => ?_) (fun c6 => ?_)
     ·
      have hst := Dq.step_3b (r := r) hl3 (by simpa using c5) (by simpa using c6)
      refine W ?_
      refine At.st1 rfl rfl sz_3 (.t rfl) .c rfl rfl (.h U0) ⟨.all, ?_⟩
      refine Y ?_
      exact fT rfl (.t rfl) (⟨by (rw [hst]; rfl), rfl, by (rw [hst]; rfl)⟩)
     ·
      refine W ?_
      refine At.st1 rfl rfl sz_3 (.t rfl) (.t rfl) rfl rfl (.h U0) ⟨.all, ?_⟩
      refine W ?_
      refine At.drawK [tt 0, tt 1, tt 2, tt 3, tt 4, tt 5, tt 6, tt 7, tt 8, tt 9, tt 10, tt 11, ff 12, tt 13] (by kernel_rfl) (by kernel_rfl) ?_
      refine W ?_
      refine At.callVR rfl rfl rfl (.k rfl (.k rfl .nil)) (.nil) (fun hg => d_cells (by omega)) kI ?_
      refine Z ?_
      refine At.condD (.t rfl) (fun c7 => ?_) (fun c7 => ?_)
      ·
       have hst := Dq.step_3c (r := r) hl3 (by simpa using c5) (by simpa using c6) (by simpa using c7)
       refine W ?_
       refine At.st1 rfl rfl sz_3 (.t rfl) .c rfl rfl (.h U0) ⟨.all, ?_⟩
       refine Y ?_
       exact fT rfl (.t rfl) (⟨by (rw [hst]; rfl), rfl, by (rw [hst]; rfl)⟩)
      ·
       have hst := Dq.step_3d (r := r) hl3 (by simpa using c5) (by simpa using c6) (by simpa using c7)
       refine Y ?_
       exact fT rfl (.t rfl) (⟨by (rw [hst]; exact congrArg Value.bool (decide_eq_false (by dsimp only; omega)).symm), rfl, by (rw [hst]; rfl)⟩)
   ·
    refine Z ?_
    refine At.condD (.t rfl) (fun c8 => ?_) (fun c8 => ?_)
    ·
     have hl4 : x.line = 4 := (by simpa using c8); have hst := Dq.step_4 (r := r) hl4 
     refine W ?_
     refine cM rfl rfl rfl (.k rfl (.k rfl (.kc (.kc .nil)))) rfl (.h (.skip (.take (.take .nil)))) .nil (r_Swap (r := r) (i := (cellAtD x.cap x.chunk x.mate x.i)) (o := 0) (x := 2) hn hN hf) keysRa .nil ⟨.all, ?_⟩
     refine W ?_
     refine At.st1 rfl rfl sz_3 (.t rfl) .c rfl rfl (.h U0) ⟨.all, ?_⟩
     refine Y ?_
     exact fT rfl (.t rfl) (⟨by (rw [hst]; rfl), rfl, by (rw [hst]; rfl)⟩)
    ·
     refine Z ?_
     refine At.condD (.t rfl) (fun c9 => ?_) (fun c9 => ?_)
     ·
      have hl5 : x.line = 5 := (by simpa using c9); have hst := Dq.step_5 (r := r) hl5 
      refine W ?_
      refine cM rfl rfl rfl (.k rfl (.kc .nil)) rfl (.h (.skip (.take (.take .nil)))) .nil (r_Load (r := r) (i := 1) hn hN hf) keysRa .nil ⟨.all, ?_⟩
      refine W ?_
      refine At.st1 rfl rfl sz_3 (.t rfl) (.t rfl) rfl rfl (.h U0) ⟨.all, ?_⟩
      refine W ?_
      refine At.st1 rfl rfl sz_3 (.t rfl) .c rfl rfl (.h U0) ⟨.all, ?_⟩
      refine Y ?_
      exact fT rfl (.t rfl) (⟨by (rw [hst]; rfl), rfl, by (rw [hst]; rfl)⟩)
     ·
      refine Z ?_
      refine At.condD (.t rfl) (fun c10 => ?_) (fun c10 => ?_)
      ·
       have hl6 : x.line = 6 := (by simpa using c10); have hst := Dq.step_6 (r := r) hl6 
       refine W ?_
       refine At.callVR rfl rfl rfl (.k rfl .nil) (.nil) (fun hg => r_State) .all ?_
       refine cM rfl rfl rfl (.k rfl (.k rfl (.kc (.k rfl .nil)))) rfl (.h (.skip (.take (.take .nil)))) .nil (r_Swap (r := r) (i := (cellAtD x.cap x.chunk x.mate x.i)) (o := 1) (x := min (max x.g 0) 16777212 + 3) hn hN hf) keysRa .nil ⟨.all, ?_⟩
       refine W ?_
       refine At.st1 rfl rfl sz_3 (.t rfl) .c rfl rfl (.h U0) ⟨.all, ?_⟩
       refine Y ?_
       exact fT rfl (.t rfl) (⟨by (rw [hst]; rfl), rfl, by (rw [hst]; rfl)⟩)
      ·
       have hst := Dq.step_o (r := r) (by simpa using c1) (by simpa using c3) (by simpa using c4) (by simpa using c8) (by simpa using c9) (by simpa using c10)
       refine Z ?_
       exact fT rfl (.t rfl) (⟨by (rw [hst]; done), rfl, by (rw [hst]; done)⟩)
theorem dp_New {a b c d chunk mate repl : Int} : Fn Tryz.prog 166 [.agg #[.int .i64 a, .int .i64 b, .int .i64 c, .int .i64 d], .int .i64 chunk, .int .i64 mate, .int .i64 repl] ([]) ([]) (fun v N H => ∃ b1, v = .pointer (some ⟨b1, 0, none⟩) ∧ N = [dpB b1 (⟨a, b, c, d, chunk, mate, repl, 1, 0, 0, 0, 0, 0⟩ : Dp)] ∧ H = []) := by
 refine Fn.enter Tryz.func166 (by kernel_rfl) rfl (n := 15) rfl rfl (fun w => ?_)
 refine W ?_
 refine At.box rfl rfl rfl (.t rfl) (fun b1 hb1 => ⟨.all, ?_⟩)
 refine W ?_
 refine eA rfl (R.build bt_226 (.k rfl (.k rfl (.k rfl (.k rfl (.kc .nil))))) (.cons rfl (.cons rfl (.cons rfl (.cons rfl (.cons rfl .nil))))) rfl) ?_
 refine At.box rfl rfl rfl (.t rfl) (fun b2 hb2 => ⟨.all, ?_⟩)
 refine W ?_
 exact At.final (N' := [dpB b2 (⟨a, b, c, d, chunk, mate, repl, 1, 0, 0, 0, 0, 0⟩ : Dp)]) rfl (.t rfl) sl (⟨b2, rfl, rfl, rfl⟩)
theorem dp_head {b : Nat} {x : Dp} (h0 : 0 ≤ x.th ∧ x.th ≤ 1000000) : Fn Tryz.prog 184 [.pointer (some ⟨b, 0, none⟩)] ([]) ([dpB b x]) (IsM (.tuple #[]) [dpB b x.head]) := by
 refine Fn.enter Tryz.func184 (by kernel_rfl) rfl (n := 13) rfl rfl (fun w => ?_)
 refine W ?_
 refine At.callVR rfl rfl rfl (.k rfl .nil) (.nil) (fun hg => r_Head (by omega)) .all ?_
 refine W ?_
 refine At.st1 rfl rfl sz_3 (.t rfl) (.t rfl) rfl rfl (.h U0) ⟨.all, ?_⟩
 refine W ?_
 refine At.st1 rfl rfl sz_3 (.t rfl) .c rfl rfl (.h U0) ⟨.all, ?_⟩
 refine W ?_
 exact At.final0 rfl (List.nil_sublist _) (⟨rfl, rfl, rfl⟩) _ (.inr rfl)
theorem dp_Step {b ba n : Nat} {wv : Value} {x : Dp} {r : Rr} (hx : x.ok) (hn : r.w.length = n) (hN : n ≤ 1000000) (hf : r.few) (hw : r.mid 1152921504606846976) : Fn Tryz.prog 174 [.pointer (some ⟨b, 0, none⟩), .pointer (some ⟨ba, 0, none⟩)] ([]) ([dpB b x, raB ba wv r, raW wv n r]) (IsM (.bool (decide ((x.step r).1.line = 0))) [dpB b (x.step r).1, raB ba wv (x.step r).2, raW wv n (x.step r).2]) := by
 refine Fn.enter Tryz.func174 (by kernel_rfl) rfl (n := 193) rfl rfl (fun w => ?_)
 have hx0 := hx
 obtain ⟨hx1, hx2, hx3, hx4, hx5⟩ := hx
 refine Z ?_
 refine At.condD (.t rfl) (fun c1 => ?_) (fun c1 => ?_)
 ·
  have hl1 : x.line = 1 := (by simpa using c1); have hst := Dp.step_1 (r := r) hl1 
  refine At.seq ?_
  refine At.plain [ff 0, ff 1, ff 2, ff 3, ff 4, ff 5, ff 6, ff 7, ff 8, ff 9, ff 10] rfl ?_
  refine eA rfl (R.move (.t rfl)) ?_
  refine eA rfl (R.move (.t rfl)) ?_
  refine eA rfl (R.move (.t rfl)) ?_
  refine eA rfl (R.nilCheckP (.t rfl)) ?_
  refine eA rfl (R.fieldAddr fo_226_1 (.t rfl)) ?_
  refine eA rfl (R.load Tryz.underlying3 rfl (.t rfl) (cS M0 rfl)) ?_
  refine eA rfl (R.as (R.addI (.t rfl) .c gO) (fun _ => congrArg (Value.int .i64) (Int.add_zero x.chunk))) ?_
  refine cM rfl rfl rfl (.k rfl (.k rfl .nil)) rfl (.h (.skip (.take (.take .nil)))) .nil (r_Load (r := r) (i := x.chunk) hn hN hf) keysRa .nil ⟨.all, ?_⟩
  refine W ?_
  refine At.st1 rfl rfl sz_3 (.t rfl) (.t rfl) rfl rfl (.h U0) ⟨.all, ?_⟩
  refine W ?_
  refine cM rfl rfl rfl (.k rfl .nil) rfl (.h (.take .nil)) .nil (dp_head (x := (⟨x.th, x.cap, x.wd, x.ver, x.chunk, x.mate, x.repl, x.line, (r.peek x.chunk), x.cur, x.w, x.n, x.stuck⟩ : Dp)) hx1) rfl .nil ⟨.all, ?_⟩
  refine Z ?_
  exact fT rfl (.t rfl) (⟨by (rw [hst]; done), rfl, by (rw [hst]; done)⟩)
 ·
  refine Z ?_
  refine At.condD (.t rfl) (fun c2 => ?_) (fun c2 => ?_)
  ·
   have hl3 : x.line = 3 := (by simpa using c2)
   refine W ?_
   refine cM rfl rfl rfl (.k rfl (.k rfl .nil)) rfl (.h (.skip (.take (.take .nil)))) .nil (r_Load (r := r) (i := x.cur + 2) hn hN hf) keysRa .nil ⟨.all, ?_⟩
   refine W ?_
   refine At.st1 rfl rfl sz_3 (.t rfl) (.t rfl) rfl rfl (.h U0) ⟨.all, ?_⟩
   refine W ?_
   refine At.callVR rfl rfl rfl (.k rfl .nil) (.nil) (fun hg => r_At) .all ?_
   refine W ?_
   refine At.st1 rfl rfl sz_3 (.t rfl) (.t rfl) rfl rfl (.h U0) ⟨.all, ?_⟩
   refine W ?_
   refine At.callVR rfl rfl rfl (.k rfl .nil) (.nil) (fun hg => r_Marked) .all ?_
   refine W ?_
   refine At.condD (.t rfl) (fun c3 => ?_) (fun c3 => ?_)
   ·
    have hst := Dp.step_3a (r := r) hl3 (by simpa using c3)
    refine W ?_
    refine At.st1 rfl rfl sz_3 (.t rfl) (.t rfl) rfl rfl (.h U0) ⟨.all, ?_⟩
    refine W ?_
    refine At.st1 rfl rfl sz_3 (.t rfl) .c rfl rfl (.h U0) ⟨.all, ?_⟩
    refine Y ?_
    exact fT rfl (.t rfl) (⟨by (rw [hst]; rfl), rfl, by (rw [hst]; rfl)⟩)
   ·
    refine Z ?_
    refine At.condD (.t rfl) (fun c4 => ?_) (fun c4 => ?_)
    ·
     have hst := Dp.step_3b (r := r) hl3 (by simpa using c3) (by simpa using c4)
     refine W ?_
     refine At.st1 rfl rfl sz_3 (.t rfl) .c rfl rfl (.h U0) ⟨.all, ?_⟩
     refine Y ?_
     exact fT rfl (.t rfl) (⟨by (rw [hst]; rfl), rfl, by (rw [hst]; rfl)⟩)
    ·
     refine W ?_
     refine At.drawK [tt 0, tt 1, tt 2, tt 3, tt 4, tt 5, tt 6, tt 7, tt 8, tt 9] (by kernel_rfl) (by kernel_rfl) ?_
     refine Z ?_
     refine At.condD (.t rfl) (fun c5 => ?_) (fun c5 => ?_)
     ·
      have hst := Dp.step_3c (r := r) hl3 (by simpa using c3) (by simpa using c4) (by simpa using c5)
      refine W ?_
      refine At.st1 rfl rfl sz_3 (.t rfl) .c rfl rfl (.h U0) ⟨.all, ?_⟩
      refine Y ?_
      exact fT rfl (.t rfl) (⟨by (rw [hst]; rfl), rfl, by (rw [hst]; rfl)⟩)
     ·
      have hst := Dp.step_3d (r := r) hl3 (by simpa using c3) (by simpa using c4) (by simpa using c5)
      refine W ?_
      refine At.st1 rfl rfl sz_3 (.t rfl) .c rfl rfl (.h U0) ⟨.all, ?_⟩
      refine Y ?_
      exact fT rfl (.t rfl) (⟨by (rw [hst]; rfl), rfl, by (rw [hst]; rfl)⟩)
  ·
   refine Z ?_
   refine At.condD (.t rfl) (fun c6 => ?_) (fun c6 => ?_)
   ·
    have hl4 : x.line = 4 := (by simpa using c6)
    refine W ?_
    refine At.drawL ([dpB b x]) [tt 0, tt 1, tt 2, tt 3, tt 4, tt 5, tt 6, tt 7, tt 8, tt 9, tt 10, tt 11, tt 12, tt 13] [ff 14] [ff 15] (keepOf sl) (by kernel_rfl) (by kernel_rfl) ?_
    refine V ?_
    refine At.stage kI ?_
    refine At.callVR rfl rfl rfl (.k rfl (.kc .nil)) (.nil) (fun hg => r_Next) kI ?_
    refine At.stage kz ?_
    refine cM rfl rfl rfl (.k rfl (.k rfl (.k rfl (.k rfl .nil)))) rfl (.h (.skip (.take (.take .nil)))) .nil (r_Swap (r := r) (i := x.cur + 2) (o := x.w) (x := nextD x.repl false) hn hN hf) keysRa .nil ⟨kz, ?_⟩
    refine W ?_
    refine At.cond (.t rfl) (fun c7 => ?_) (fun c7 => ?_)
    ·
     have hst := Dp.step_4a (r := r) hl4 (by simpa using c7)
     refine W ?_
     refine At.st1 rfl rfl sz_3 (.t rfl) .c rfl rfl (.h U0) ⟨.all, ?_⟩
     refine Y ?_
     exact fT rfl (.t rfl) (⟨by (rw [hst]; rfl), rfl, by (rw [hst]; rfl)⟩)
    ·
     have hst := Dp.step_4b (r := r) hl4 (by simpa using c7)
     refine W ?_
     refine cM rfl rfl rfl (.k rfl .nil) rfl (.h (.take .nil)) .nil (dp_head (x := x) hx1) rfl .nil ⟨.all, ?_⟩
     refine Z ?_
     exact fT rfl (.t rfl) (⟨by (rw [hst]; done), rfl, by (rw [hst]; done)⟩)
   ·
    refine Z ?_
    refine At.condD (.t rfl) (fun c8 => ?_) (fun c8 => ?_)
    ·
     have hl5 : x.line = 5 := (by simpa using c8)
     refine W ?_
     refine At.drawL ([dpB b x]) [tt 0, tt 1, tt 2, tt 3, tt 4, tt 5, tt 7, tt 8, tt 9, tt 10] [] [ff 6, tt 11] (keepOf sl) (by kernel_rfl) (by kernel_rfl) ?_
     refine sC rfl kz (R.move (.t rfl)) ?_
     refine sC rfl kz (R.move (.t rfl)) ?_
     refine sC rfl kz (R.nilCheckP (.t rfl)) ?_
     refine sC rfl kz (R.fieldAddr fo_226_8 (.t rfl)) ?_
     refine sC rfl kz (R.load Tryz.underlying3 rfl (.t rfl) (cK M0 rfl)) ?_
     refine sC rfl kz (R.as (R.addI (.t rfl) .c gO) (fun _ => congrArg (Value.int .i64) (Int.add_zero x.n))) ?_
     refine V ?_
     refine At.stage kI ?_
     refine At.stage kz ?_
     refine cM rfl rfl rfl (.k rfl (.k rfl .nil)) rfl (.h (.skip (.take (.take .nil)))) .nil (r_Load (r := r) (i := x.n) hn hN hf) keysRa .nil ⟨kz, ?_⟩
     refine Z ?_
     refine At.condD (.t rfl) (fun c9 => ?_) (fun c9 => ?_)
     ·
      have hst := Dp.step_5a (r := r) hl5 (by simpa using c9)
      refine W ?_
      refine At.st1 rfl rfl sz_3 (.t rfl) .c rfl rfl (.h U0) ⟨.all, ?_⟩
      refine Y ?_
      exact fT rfl (.t rfl) (⟨by (rw [hst]; rfl), rfl, by (rw [hst]; rfl)⟩)
     ·
      have hst := Dp.step_5b (r := r) hl5 (by simpa using c9)
      refine W ?_
      refine At.st1 rfl rfl sz_3 (.t rfl) (.t rfl) rfl rfl (.h U0) ⟨.all, ?_⟩
      refine W ?_
      refine At.st1 rfl rfl sz_3 (.t rfl) .c rfl rfl (.h U0) ⟨.all, ?_⟩
      refine Y ?_
      exact fT rfl (.t rfl) (⟨by (rw [hst]; rfl), rfl, by (rw [hst]; rfl)⟩)
    ·
     refine Z ?_
     refine At.condD (.t rfl) (fun c10 => ?_) (fun c10 => ?_)
     ·
      have hl6 : x.line = 6 := (by simpa using c10)
      refine W ?_
      refine cM rfl rfl rfl (.k rfl (.k rfl (.kc .nil))) rfl (.h (.skip (.take (.take .nil)))) .nil (r_Store (r := r) (i := x.chunk + 6) (x := 2) hn hN hf) keysRa .nil ⟨.all, ?_⟩
      refine W ?_
      refine At.st1 rfl rfl sz_3 (.t rfl) .c rfl rfl (.h U0) ⟨.all, ?_⟩
      refine Z ?_
      refine At.condN (.t rfl) (fun c11 => ?_) (fun c11 => ?_)
      ·
       have hst := Dp.step_6a (r := r) hl6 (by simpa using c11)
       refine W ?_
       refine At.st1 rfl rfl sz_3 (.t rfl) .c rfl rfl (.h U0) ⟨.all, ?_⟩
       refine Y ?_
       exact fT rfl (.t rfl) (⟨by (rw [hst]; rfl), rfl, by (rw [hst]; rfl)⟩)
      ·
       have hst := Dp.step_6b (r := r) hl6 (by simpa using c11)
       refine Y ?_
       exact fT rfl (.t rfl) (⟨by (rw [hst]; rfl), rfl, by (rw [hst]; rfl)⟩)
     ·
      refine Z ?_
      refine At.condD (.t rfl) (fun c12 => ?_) (fun c12 => ?_)
      ·
       have hl7 : x.line = 7 := (by simpa using c12); have hst := Dp.step_7 (r := r) hl7 
       refine W ?_
       refine cM rfl rfl rfl (.k rfl (.k rfl (.kc .nil))) rfl (.h (.skip (.take (.take .nil)))) .nil (r_Store (r := r) (i := x.mate + 6) (x := 2) hn hN hf) keysRa .nil ⟨.all, ?_⟩
       refine W ?_
       refine At.st1 rfl rfl sz_3 (.t rfl) .c rfl rfl (.h U0) ⟨.all, ?_⟩
       refine Y ?_
       exact fT rfl (.t rfl) (⟨by (rw [hst]; rfl), rfl, by (rw [hst]; rfl)⟩)
      ·
       refine Z ?_
       refine At.condD (.t rfl) (fun c13 => ?_) (fun c13 => ?_)
       ·
        have hl8 : x.line = 8 := (by simpa using c13); have hst := Dp.step_8 (r := r) hl8 
        refine W ?_
        refine At.drawL ([dpB b x]) [tt 0, tt 1, tt 2, tt 3, tt 4, tt 5, tt 6, tt 7, tt 8, tt 9, tt 10, tt 12, tt 13, tt 14, tt 15] [ff 11] [ff 16] (keepOf sl) (by kernel_rfl) (by kernel_rfl) ?_
        refine VZ ?_
        refine At.stage kI ?_
        refine At.callVR rfl rfl rfl (.k rfl (.k rfl .nil)) (.nil) (fun hg => r_Hint (by omega) (by omega)) kI ?_
        refine At.stage kz ?_
        refine cM rfl rfl rfl (.k rfl (.k rfl (.k rfl .nil))) rfl (.h (.skip (.take (.take .nil)))) .nil (r_Store (r := r) (i := (3 + x.th + max 0 (min x.m 63) / 16)) (x := x.repl) hn hN hf) keysRa .nil ⟨kz, ?_⟩
        refine W ?_
        refine At.st1 rfl rfl sz_3 (.t rfl) .c rfl rfl (.h U0) ⟨.all, ?_⟩
        refine Y ?_
        exact fT rfl (.t rfl) (⟨by (rw [hst]; rfl), rfl, by (rw [hst]; rfl)⟩)
       ·
        have hst := Dp.step_o (r := r) (by simpa using c1) (by simpa using c2) (by simpa using c6) (by simpa using c8) (by simpa using c10) (by simpa using c12) (by simpa using c13)
        refine Z ?_
        exact fT rfl (.t rfl) (⟨by (rw [hst]; done), rfl, by (rw [hst]; done)⟩)
end Go.Proofs.YtbolanigdkgbdaaGreat
namespace Go.Proofs.YtbolanigdkgbdaaGreat
open Go Go.RowKit
set_option maxRecDepth 10000
set_option linter.unusedVariables false
set_option maxHeartbeats 1000000
theorem bt_231 : buildTab Tryz.prog 231 = some (#[.int .i64 0, .int .i64 0, .int .i64 0, .int .i64 0, .int .i64 0, .int .i64 0, .int .i64 0, .int .i64 0, .slice none 0 0], [(0, 4), (4, 1), (5, 1), (6, 1), (7, 1), (8, 1)]) := by kernel_rfl
theorem fo_231_0 : fieldOff? Tryz.prog 231 0 = some 0 := by kernel_rfl
theorem fo_231_1 : fieldOff? Tryz.prog 231 1 = some 4 := by kernel_rfl
theorem fo_231_2 : fieldOff? Tryz.prog 231 2 = some 5 := by kernel_rfl
theorem fo_231_3 : fieldOff? Tryz.prog 231 3 = some 6 := by kernel_rfl
theorem fo_231_4 : fieldOff? Tryz.prog 231 4 = some 7 := by kernel_rfl
theorem fo_231_5 : fieldOff? Tryz.prog 231 5 = some 8 := by kernel_rfl
theorem sz_25 : (Tryz.prog.info? 25).map (·.size) = some 1 := by kernel_rfl
structure Dn where
  th : Int
  cap : Int
  wd : Int
  ver : Int
  t : Int
  line : Int
  e : Int
  v : Int
  l : List Int
abbrev dnC (Lv : Value) (x : Dn) : Array Value := #[.int .i64 x.th, .int .i64 x.cap, .int .i64 x.wd, .int .i64 x.ver, .int .i64 x.t, .int .i64 x.line, .int .i64 x.e, .int .i64 x.v, Lv]
abbrev dnB (b : Nat) (Lv : Value) (x : Dn) : Ent := .blk b (.cells (dnC Lv x) 231)
structure Dn.ok (x : Dn) : Prop where
  tt : 0 ≤ x.t ∧ x.t ≤ 1000
  ee : -1152921504606846976 ≤ x.e ∧ x.e ≤ 1152921504606846976
  vv : -1152921504606846976 ≤ x.v ∧ x.v ≤ 1152921504606846976
def Dn.next (x : Dn) : Dn := if x.th ≤ x.t + 1 then (⟨x.th, x.cap, x.wd, x.ver, (x.t + 1), 0, x.e, x.v, x.l⟩ : Dn) else (⟨x.th, x.cap, x.wd, x.ver, (x.t + 1), 1, x.e, x.v, x.l⟩ : Dn)
theorem Dn.next_l (x : Dn) : x.next.l = x.l := by unfold Dn.next; split <;> rfl
def posZ (l : List Int) (v : Int) : Nat := (l.takeWhile fun y => decide (y < v)).length
def metD (l : List Int) (v : Int) : List Int := if posZ l v = l.length ∨ ¬ gE l (posZ l v : Int) = v then l.take (posZ l v) ++ [v] ++ l.drop (posZ l v) else l
theorem posZ_of {l : List Int} {v : Int} {k : Nat} (h1 : k ≤ l.length) (h2 : ∀ j : Nat, j < k → gE l (j : Int) < v) (h3 : (decide ((k : Int) < (l.length : Int)) && decide (gE l (k : Int) < v)) = false) : posZ l v = k := by
  unfold posZ
  induction l generalizing k with
  | nil => simp at h1; simp [h1]
  | cons x r ih =>
    rw [List.takeWhile_cons]
    cases k with
    | zero =>
      simp [gE] at h3
      simp [show ¬ x < v by omega]
    | succ k =>
      have h0 := h2 0 (by omega)
      simp [gE] at h0
      simp [h0]
      refine ih (by simpa using h1) (fun j hj => ?_) ?_
      · have := h2 (j + 1) (by omega); simpa [gE] using this
      · simpa [gE] using h3
theorem metD_ins {l : List Int} {v : Int} {k : Nat} (hk : posZ l v = k) (h : (decide ((k : Int) = (l.length : Int)) || !decide (gE l (k : Int) = v)) = true) : (([] ++ (l.drop 0).take (k - 0)) ++ [v]) ++ (l.drop k).take (l.length - k) = metD l v := by
  unfold metD
  rw [hk, if_pos (by simp at h; omega)]
  simp
  exact List.take_of_length_le (by simp)
theorem metD_not {l : List Int} {v : Int} {k : Nat} (hk : posZ l v = k) (h : (decide ((k : Int) = (l.length : Int)) || !decide (gE l (k : Int) = v)) = false) : l = metD l v := by
  unfold metD
  rw [hk, if_neg (by simp at h; omega)]
def Dn.step (x : Dn) (r : Rr) : Dn × Rr :=
  if x.line = 1 then if ¬ (r.peek (3 + x.t)) % 16777216 = 1 then if 1 < (r.peek (3 + x.t)) % 16777216 then ((⟨x.th, x.cap, x.wd, x.ver, x.t, 2, (r.peek (3 + x.t)), x.v, (metD x.l ((r.peek (3 + x.t)) % 16777216 - 2))⟩ : Dn).next, r.load (3 + x.t)) else ((⟨x.th, x.cap, x.wd, x.ver, x.t, 2, (r.peek (3 + x.t)), x.v, x.l⟩ : Dn).next, r.load (3 + x.t)) else ((⟨x.th, x.cap, x.wd, x.ver, x.t, 2, (r.peek (3 + x.t)), x.v, x.l⟩ : Dn), r.load (3 + x.t))
  else if x.line = 2 then ((⟨x.th, x.cap, x.wd, x.ver, x.t, 3, x.e, (r.peek 1), x.l⟩ : Dn), r.add 1 1)
  else if x.line = 3 then ((⟨x.th, x.cap, x.wd, x.ver, x.t, 4, x.e, x.v, x.l⟩ : Dn), r.swap (3 + x.t) x.e (claimD (x.e / 16777216) (x.v + 2)))
  else if x.line = 4 then if (r.peek (3 + x.t)) / 16777216 = x.e / 16777216 ∧ 1 < (r.peek (3 + x.t)) % 16777216 then ((⟨x.th, x.cap, x.wd, x.ver, x.t, x.line, x.e, x.v, (metD x.l ((r.peek (3 + x.t)) % 16777216 - 2))⟩ : Dn).next, r.load (3 + x.t)) else (x.next, r.load (3 + x.t))
  else (x, r)
theorem Dn.step_1a {x : Dn} {r : Rr} (h : x.line = 1) (h0 : ¬ (r.peek (3 + x.t)) % 16777216 = 1) (h1 : 1 < (r.peek (3 + x.t)) % 16777216) : Dn.step x r = ((⟨x.th, x.cap, x.wd, x.ver, x.t, 2, (r.peek (3 + x.t)), x.v, (metD x.l ((r.peek (3 + x.t)) % 16777216 - 2))⟩ : Dn).next, r.load (3 + x.t)) := by unfold Dn.step; rw [if_pos h, if_pos h0, if_pos h1]
theorem Dn.step_1b {x : Dn} {r : Rr} (h : x.line = 1) (h0 : ¬ (r.peek (3 + x.t)) % 16777216 = 1) (h1 : ¬ (1 < (r.peek (3 + x.t)) % 16777216)) : Dn.step x r = ((⟨x.th, x.cap, x.wd, x.ver, x.t, 2, (r.peek (3 + x.t)), x.v, x.l⟩ : Dn).next, r.load (3 + x.t)) := by unfold Dn.step; rw [if_pos h, if_pos h0, if_neg h1]
theorem Dn.step_1c {x : Dn} {r : Rr} (h : x.line = 1) (h0 : ¬ (¬ (r.peek (3 + x.t)) % 16777216 = 1)) : Dn.step x r = ((⟨x.th, x.cap, x.wd, x.ver, x.t, 2, (r.peek (3 + x.t)), x.v, x.l⟩ : Dn), r.load (3 + x.t)) := by unfold Dn.step; rw [if_pos h, if_neg h0]
theorem Dn.step_2 {x : Dn} {r : Rr} (h : x.line = 2)  : Dn.step x r = ((⟨x.th, x.cap, x.wd, x.ver, x.t, 3, x.e, (r.peek 1), x.l⟩ : Dn), r.add 1 1) := by unfold Dn.step; rw [if_neg (by omega), if_pos h]
theorem Dn.step_3 {x : Dn} {r : Rr} (h : x.line = 3)  : Dn.step x r = ((⟨x.th, x.cap, x.wd, x.ver, x.t, 4, x.e, x.v, x.l⟩ : Dn), r.swap (3 + x.t) x.e (claimD (x.e / 16777216) (x.v + 2))) := by unfold Dn.step; rw [if_neg (by omega), if_neg (by omega), if_pos h]
theorem Dn.step_4a {x : Dn} {r : Rr} (h : x.line = 4) (h0 : (r.peek (3 + x.t)) / 16777216 = x.e / 16777216 ∧ 1 < (r.peek (3 + x.t)) % 16777216) : Dn.step x r = ((⟨x.th, x.cap, x.wd, x.ver, x.t, x.line, x.e, x.v, (metD x.l ((r.peek (3 + x.t)) % 16777216 - 2))⟩ : Dn).next, r.load (3 + x.t)) := by unfold Dn.step; rw [if_neg (by omega), if_neg (by omega), if_neg (by omega), if_pos h, if_pos h0]
theorem Dn.step_4b {x : Dn} {r : Rr} (h : x.line = 4) (h0 : ¬ ((r.peek (3 + x.t)) / 16777216 = x.e / 16777216 ∧ 1 < (r.peek (3 + x.t)) % 16777216)) : Dn.step x r = (x.next, r.load (3 + x.t)) := by unfold Dn.step; rw [if_neg (by omega), if_neg (by omega), if_neg (by omega), if_pos h, if_neg h0]
theorem Dn.step_o {x : Dn} {r : Rr} (h1 : ¬ x.line = 1) (h2 : ¬ x.line = 2) (h3 : ¬ x.line = 3) (h4 : ¬ x.line = 4) : Dn.step x r = (x, r) := by unfold Dn.step; rw [if_neg h1, if_neg h2, if_neg h3, if_neg h4]
theorem dn_New {a b c d : Int} : Fn Tryz.prog 167 [.agg #[.int .i64 a, .int .i64 b, .int .i64 c, .int .i64 d]] ([]) ([]) (fun v N H => ∃ b1, v = .pointer (some ⟨b1, 0, none⟩) ∧ N = [dnB b1 (.slice none 0 0) (⟨a, b, c, d, 0, 1, 0, 0, []⟩ : Dn), rowE zK 3 (.slice none 0 0) []] ∧ H = []) := by
 refine Fn.enter Tryz.func167 (by kernel_rfl) rfl (n := 6) rfl rfl (fun w => ?_)
 refine W ?_
 refine At.box rfl rfl rfl (.t rfl) (fun b1 hb1 => ⟨.all, ?_⟩)
 refine W ?_
 refine eA rfl (R.build bt_231 (.k rfl (.kc .nil)) (.cons rfl (.cons rfl .nil)) rfl) ?_
 refine At.box rfl rfl rfl (.t rfl) (fun b2 hb2 => ⟨.all, ?_⟩)
 refine W ?_
 refine At.nilRow zK 3 ?_
 refine At.perm (List.Perm.swap _ _ _) ?_
 exact At.final (N' := [dnB b2 (.slice none 0 0) (⟨a, b, c, d, 0, 1, 0, 0, []⟩ : Dn), rowE zK 3 (.slice none 0 0) []]) rfl (.t rfl) sl (⟨b2, rfl, rfl, rfl⟩)
theorem dn_next {b : Nat} {Lv : Value} {x : Dn} (hx : 0 ≤ x.t ∧ x.t ≤ 100000) : Fn Tryz.prog 179 [.pointer (some ⟨b, 0, none⟩)] ([]) ([dnB b Lv x]) (IsM (.tuple #[]) [dnB b Lv x.next]) := by
 refine Fn.enter Tryz.func179 (by kernel_rfl) rfl (n := 26) rfl rfl (fun w => ?_)
 refine W ?_
 refine At.st1 rfl rfl sz_3 (.t rfl) (.t rfl) rfl rfl (.h U0) ⟨.all, ?_⟩
 refine W ?_
 refine At.st1 rfl rfl sz_3 (.t rfl) .c rfl rfl (.h U0) ⟨.all, ?_⟩
 refine W ?_
 refine At.drawK [tt 0, tt 1, tt 2, tt 3, tt 4, tt 5, tt 6, tt 7, tt 8, tt 9] (by kernel_rfl) (by kernel_rfl) ?_
 refine Z ?_
 refine At.condD (.t rfl) (fun c1 => ?_) (fun c1 => ?_)
 ·
  refine W ?_
  refine At.st1 rfl rfl sz_3 (.t rfl) .c rfl rfl (.h U0) ⟨.all, ?_⟩
  refine W ?_
  exact At.final0 rfl (List.nil_sublist _) (⟨rfl, rfl, by unfold Dn.next; (rw [if_pos (by simpa using c1)]; rfl)⟩) _ (.inr rfl)
 ·
  refine W ?_
  exact At.final0 rfl (List.nil_sublist _) (⟨rfl, rfl, by unfold Dn.next; (rw [if_neg (by simpa using c1)]; rfl)⟩) _ (.inr rfl)
theorem dn_Versions {b : Nat} {Lv : Value} {x : Dn} (hl : x.line = 0) : Fn Tryz.prog 170 [.pointer (some ⟨b, 0, none⟩)] ([dnB b Lv x]) ([]) (IsV Lv) := by
 refine Fn.enter Tryz.func170 (by kernel_rfl) rfl (n := 12) rfl rfl (fun w => ?_)
 refine W ?_
 refine eA rfl (R.as (R.neq (.t rfl) .c) (fun _ => congrArg Value.bool (congrArg Bool.not (decide_eq_true (by omega))))) ?_
 refine W ?_
 exact fT rfl (.t rfl) (⟨rfl, rfl, rfl⟩)
theorem dn_met {b : Nat} {Lv : Value} {x : Dn} {y : Int} (hL : x.l.length ≤ 100000) : FnX Tryz.prog 178 [.pointer (some ⟨b, 0, none⟩), .int .i64 y] ([]) ([dnB b Lv x, rowE zK 3 Lv x.l]) (fun v N => ∃ Lv2, v = .tuple #[] ∧ N = [rowE zK 3 Lv2 (metD x.l y), dnB b Lv2 x]) := by
 refine FnX.enter Tryz.func178 (by kernel_rfl) rfl (n := 63) rfl rfl (fun w df hds how => ?_)
 refine W ?_
 refine At.loop1 (fun (k : Nat) => k ≤ x.l.length ∧ ∀ j : Nat, j < k → gE x.l (j : Int) < y) (fun (k : Nat) => x.l.length - k) (fun (k : Nat) => [(0, true, .pointer (some ⟨b, 0, none⟩)), (1, true, .int .i64 y), (4, true, .int .i64 k)]) (fun (k : Nat) => [dnB b Lv x, rowE zK 3 Lv x.l]) (fun (k : Nat) => []) (0) ⟨Nat.zero_le _, fun j hj => absurd hj (Nat.not_lt_zero _)⟩ (.cons rfl (.cons rfl (.cons rfl .nil))) (List.Sublist.refl _) rfl (fun k hi => ?_)
 obtain ⟨hk1, hk2⟩ := hi
 refine U ?_
 refine eA rfl (R.lenRd Tryz.underlying25 (.t rfl) (wS M1)) ?_
 refine eA rfl (R.lss (.t rfl) (.t rfl)) ?_
 refine U ?_
 refine eA rfl (R.indexRd Tryz.underlying25 sz_3 (.s rfl) (wS M1) (.s rfl) (fun hg => (by ((simp [-List.length_eq_zero_iff] at hg; omega))))) ?_
 refine eA rfl (R.loadRd Tryz.underlying3 rfl (.s rfl) (wS M1) (fun hg => by exact Ek.get0 rfl (by ((simp [-List.length_eq_zero_iff] at hg; omega))))) ?_
 refine U ?_
 refine eA rfl (R.lss (.s rfl) (.s rfl)) ?_
 refine eA rfl (R.pickAnd (.t rfl) rfl (by (intro hg h; rw [h]; rfl))) ?_
 refine U ?_
 refine At.cond (.t rfl) (fun c1 => ?_) (fun c1 => ?_)
 ·
  refine W ?_
  exact At.again1 (k + 1) ⟨by simp at c1; omega, fun j hj => (by simp at c1; rcases Nat.lt_succ_iff_lt_or_eq.1 hj with h | h; exact hk2 j h; subst h; exact c1.2)⟩ (by simp at c1; omega) (.cons rfl (.cons rfl (.cons rfl .nil))) (List.Sublist.refl _) rfl
 ·
  refine U ?_
  refine eA rfl (R.lenRd Tryz.underlying25 (.t rfl) (wS M1)) ?_
  refine eA rfl (R.eql (.t rfl) (.t rfl)) ?_
  refine U ?_
  refine eA rfl (R.indexRd Tryz.underlying25 sz_3 (.s rfl) (wS M1) (.s rfl) (fun hg => (by ((simp [-List.length_eq_zero_iff] at hg; omega))))) ?_
  refine eA rfl (R.loadRd Tryz.underlying3 rfl (.s rfl) (wS M1) (fun hg => by exact Ek.get0 rfl (by ((simp [-List.length_eq_zero_iff] at hg; omega))))) ?_
  refine U ?_
  refine eA rfl (R.neq (.s rfl) (.s rfl)) ?_
  refine eA rfl (R.pickOr (.t rfl) rfl (by (intro hg h; rw [h]; rfl))) ?_
  refine U ?_
  refine At.cond (.t rfl) (fun c2 => ?_) (fun c2 => ?_)
  ·
   let F32 : Value → Value → Value → Value → Fr := fun va vl vb vc => [(43, pt b 0), (44, pt b 0), (46, pt b 8), (48, iv (k : Int)), (49, true, cutV Lv 1 0 k), (50, true, va), (51, iv y), (52, true, vl), (53, true, vb), (54, pt b 0), (56, pt b 8), (58, iv (k : Int)), (59, true, cutV Lv 1 k x.l.length), (60, true, vc), (62, pt b 8), (0, pt b 0)]
   refine At.dag [tt 0, tt 1, tt 2, tt 3, tt 5, tt 8, tt 11, tt 12, tt 13, tt 15] 11 (mT 21 [0, 1, 2, 3, 5, 8, 11, 12, 13, 15]) ([rowE zK 3 Lv x.l]) (keepOf sl) (by kernel_rfl) (by kernel_rfl) (fun G hnode hdone => ?_)
   have g0 : ∀ (va vl vb vc : Value), At w 63 [] (fs (F32 va vl vb vc) 65535) ([rowE zK 3 vc (((([] ++ (x.l.drop 0).take (k - 0)) ++ [y]) ++ (x.l.drop k).take (x.l.length - k))), dnB b vc x, rowE zK 3 Lv x.l]) ([]) (G 0 (mF 21 [])) := fun va vl vb vc => by
    refine hdone _ _ _ (by kernel_rfl) ?_
    refine At.reRow (xs' := metD x.l y) .here (metD_ins (posZ_of hk1 hk2 c1) c2) ?_
    exact At.finalX0 (N' := [rowE zK 3 vc (metD x.l y), dnB b vc x]) hds how rfl sl (⟨_, rfl, rfl⟩) _ (.inr rfl)
   have g1 : ∀ (va vl vb vc : Value), At w 63 [] (fs (F32 va vl vb vc) 65535) ([rowE zK 3 vc (((([] ++ (x.l.drop 0).take (k - 0)) ++ [y]) ++ (x.l.drop k).take (x.l.length - k))), dnB b Lv x, rowE zK 3 Lv x.l]) ([]) (G 1 (mF 21 [20])) := fun va vl vb vc => by
    refine hnode _ _ _ _ [(20, [], 0, (mF 21 []))] (by kernel_rfl) kz ?_
    ·
     refine At.rowOne (v := vc) (M0) (fun h1v => ?_)
     refine At.st1 rfl rfl sz_25 (.t rfl) (.t rfl) h1v rfl (.n U1) ⟨kz, ?_⟩
     refine W ?_
     exact wk (g0 va vl vb vc)
   have g2 : ∀ (va vl vb : Value), At w 63 [] (fs (F32 va vl vb .nilFunc) 40959) ([rowE zK 3 vb ((([] ++ (x.l.drop 0).take (k - 0)) ++ [y])), dnB b Lv x, rowE zK 3 Lv x.l]) ([]) (G 4 (mF 21 [17, 18, 19, 20])) := fun va vl vb => by
    refine hnode _ _ _ _ [(17, [tt 18, tt 19], 1, (mF 21 [20]))] (by kernel_rfl) kz ?_
    ·
     refine At.app (k := zK) rfl rfl rfl Tryz.underlying25 et_3 (.t rfl) (.t rfl) (fun _ => by (exact U0)) (RdIn.cutE (k := zK) (wS M2) _ _ (by omega) (by omega)) (by (simp <;> omega)) (fun v1 => ⟨kz, ?_⟩)
     refine W ?_
     exact wk (g1 va vl vb v1)
   have g3 : ∀ (va vl : Value), At w 63 [] (fs (F32 va vl .nilFunc .nilFunc) 40703) ([rowE zK 3 vl ([y]), rowE zK 3 va (([] ++ (x.l.drop 0).take (k - 0))), dnB b Lv x, rowE zK 3 Lv x.l]) ([]) (G 5 (mF 21 [10, 17, 18, 19, 20])) := fun va vl => by
    refine hnode _ _ _ _ [(10, [], 4, (mF 21 [17, 18, 19, 20]))] (by kernel_rfl) kz ?_
    ·
     refine At.app (k := zK) rfl rfl rfl Tryz.underlying25 et_3 (.t rfl) (.t rfl) (fun _ => by (exact U1)) (wS M0) (by (simp <;> omega)) (fun v1 => ⟨kz, ?_⟩)
     refine W ?_
     exact wk (g2 va vl v1)
   have g4 : ∀ (va vl vb : Value), At w 63 [] (fs (F32 va vl vb .nilFunc) 36863) ([rowE zK 3 vb ((([] ++ (x.l.drop 0).take (k - 0)) ++ [y])), dnB b Lv x, rowE zK 3 Lv x.l]) ([]) (G 6 (mF 21 [14, 16, 17, 18, 19, 20])) := fun va vl vb => by
    refine hnode _ _ _ _ [(14, [tt 16], 4, (mF 21 [17, 18, 19, 20]))] (by kernel_rfl) kz ?_
    ·
     refine WD ?_
     refine sC rfl kz (R.sliceRd Tryz.underlying25 sz_3 (.t rfl) (wK M0) (.t rfl) rfl gO) ?_
     refine W ?_
     exact wk (g2 va vl vb)
   have g5 : ∀ (va : Value), At w 63 [] (fs (F32 va .nilFunc .nilFunc .nilFunc) 40575) ([rowE zK 3 va (([] ++ (x.l.drop 0).take (k - 0))), dnB b Lv x, rowE zK 3 Lv x.l]) ([]) (G 6 (mF 21 [9, 10, 17, 18, 19, 20])) := fun va => by
    refine hnode _ _ _ _ [(9, [], 5, (mF 21 [10, 17, 18, 19, 20]))] (by kernel_rfl) kz ?_
    ·
     refine At.lit (k := zK) rfl rfl rfl Tryz.underlying25 et_3 (.k rfl .nil) (.cons rfl .nil) rfl rfl rfl (fun v1 => ⟨kz, ?_⟩)
     refine W ?_
     exact wk (g3 va v1)
   have g6 : ∀ (vl : Value), At w 63 [] (fs (F32 .nilFunc vl .nilFunc .nilFunc) 40671) ([rowE zK 3 vl ([y]), dnB b Lv x, rowE zK 3 Lv x.l]) ([]) (G 6 (mF 21 [7, 10, 17, 18, 19, 20])) := fun vl => by
    refine hnode _ _ _ _ [(7, [], 5, (mF 21 [10, 17, 18, 19, 20]))] (by kernel_rfl) kz ?_
    ·
     (refine At.nilRow zK 3 ?_; refine At.app (k := zK) rfl rfl rfl Tryz.underlying25 et_3 .c (.t rfl) (fun _ => by (exact U0)) (RdIn.cutE (k := zK) (wS M3) _ _ (by omega) (by omega)) (by (simp <;> omega)) (fun v1 => ⟨kz, ?_⟩))
     refine W ?_
     refine At.perm (List.Perm.swap _ _ _) ?_
     exact wk (g3 v1 vl)
   have g7 : ∀ (va vl : Value), At w 63 [] (fs (F32 va vl .nilFunc .nilFunc) 36607) ([rowE zK 3 vl ([y]), rowE zK 3 va (([] ++ (x.l.drop 0).take (k - 0))), dnB b Lv x, rowE zK 3 Lv x.l]) ([]) (G 7 (mF 21 [10, 14, 16, 17, 18, 19, 20])) := fun va vl => by
    refine hnode _ _ _ _ [(10, [], 6, (mF 21 [14, 16, 17, 18, 19, 20])), (14, [tt 16], 5, (mF 21 [10, 17, 18, 19, 20]))] (by kernel_rfl) kz ?_
    refine ⟨?_, ?_⟩
    ·
     refine At.app (k := zK) rfl rfl rfl Tryz.underlying25 et_3 (.t rfl) (.t rfl) (fun _ => by (exact U1)) (wS M0) (by (simp <;> omega)) (fun v1 => ⟨kz, ?_⟩)
     refine W ?_
     exact wk (g4 va vl v1)
    ·
     refine WD ?_
     refine sC rfl kz (R.sliceRd Tryz.underlying25 sz_3 (.t rfl) (wK M0) (.t rfl) rfl gO) ?_
     refine W ?_
     exact wk (g3 va vl)
   have g8 : ∀ (_ : True), At w 63 [] (fs (F32 .nilFunc .nilFunc .nilFunc .nilFunc) 40543) ([dnB b Lv x, rowE zK 3 Lv x.l]) ([]) (G 7 (mF 21 [7, 9, 10, 17, 18, 19, 20])) := fun _ => by
    refine hnode _ _ _ _ [(7, [], 6, (mF 21 [9, 10, 17, 18, 19, 20])), (9, [], 6, (mF 21 [7, 10, 17, 18, 19, 20]))] (by kernel_rfl) kz ?_
    refine ⟨?_, ?_⟩
    ·
     (refine At.nilRow zK 3 ?_; refine At.app (k := zK) rfl rfl rfl Tryz.underlying25 et_3 .c (.t rfl) (fun _ => by (exact U0)) (RdIn.cutE (k := zK) (wS M2) _ _ (by omega) (by omega)) (by (simp <;> omega)) (fun v1 => ⟨kz, ?_⟩))
     refine W ?_
     exact wk (g5 v1)
    ·
     refine At.lit (k := zK) rfl rfl rfl Tryz.underlying25 et_3 (.k rfl .nil) (.cons rfl .nil) rfl rfl rfl (fun v1 => ⟨kz, ?_⟩)
     refine W ?_
     exact wk (g6 v1)
   have g9 : ∀ (va : Value), At w 63 [] (fs (F32 va .nilFunc .nilFunc .nilFunc) 36479) ([rowE zK 3 va (([] ++ (x.l.drop 0).take (k - 0))), dnB b Lv x, rowE zK 3 Lv x.l]) ([]) (G 8 (mF 21 [9, 10, 14, 16, 17, 18, 19, 20])) := fun va => by
    refine hnode _ _ _ _ [(9, [], 7, (mF 21 [10, 14, 16, 17, 18, 19, 20])), (14, [tt 16], 6, (mF 21 [9, 10, 17, 18, 19, 20]))] (by kernel_rfl) kz ?_
    refine ⟨?_, ?_⟩
    ·
     refine At.lit (k := zK) rfl rfl rfl Tryz.underlying25 et_3 (.k rfl .nil) (.cons rfl .nil) rfl rfl rfl (fun v1 => ⟨kz, ?_⟩)
     refine W ?_
     exact wk (g7 va v1)
    ·
     refine WD ?_
     refine sC rfl kz (R.sliceRd Tryz.underlying25 sz_3 (.t rfl) (wK M0) (.t rfl) rfl gO) ?_
     refine W ?_
     exact wk (g5 va)
   have g10 : ∀ (vl : Value), At w 63 [] (fs (F32 .nilFunc vl .nilFunc .nilFunc) 36575) ([rowE zK 3 vl ([y]), dnB b Lv x, rowE zK 3 Lv x.l]) ([]) (G 8 (mF 21 [7, 10, 14, 16, 17, 18, 19, 20])) := fun vl => by
    refine hnode _ _ _ _ [(7, [], 7, (mF 21 [10, 14, 16, 17, 18, 19, 20])), (14, [tt 16], 6, (mF 21 [7, 10, 17, 18, 19, 20]))] (by kernel_rfl) kz ?_
    refine ⟨?_, ?_⟩
    ·
     (refine At.nilRow zK 3 ?_; refine At.app (k := zK) rfl rfl rfl Tryz.underlying25 et_3 .c (.t rfl) (fun _ => by (exact U0)) (RdIn.cutE (k := zK) (wS M3) _ _ (by omega) (by omega)) (by (simp <;> omega)) (fun v1 => ⟨kz, ?_⟩))
     refine W ?_
     refine At.perm (List.Perm.swap _ _ _) ?_
     exact wk (g7 v1 vl)
    ·
     refine WD ?_
     refine sC rfl kz (R.sliceRd Tryz.underlying25 sz_3 (.t rfl) (wK M0) (.t rfl) rfl gO) ?_
     refine W ?_
     exact wk (g6 vl)
   have g11 : ∀ (vl : Value), At w 63 [] (fs (F32 .nilFunc vl .nilFunc .nilFunc) 40655) ([rowE zK 3 vl ([y]), dnB b Lv x, rowE zK 3 Lv x.l]) ([]) (G 8 (mF 21 [4, 6, 7, 10, 17, 18, 19, 20])) := fun vl => by
    refine hnode _ _ _ _ [(4, [tt 6], 6, (mF 21 [7, 10, 17, 18, 19, 20]))] (by kernel_rfl) kz ?_
    ·
     refine WD ?_
     refine sC rfl kz (R.sliceRd Tryz.underlying25 sz_3 (.t rfl) (wK M0) rfl (.t rfl) gO) ?_
     refine W ?_
     exact wk (g6 vl)
   have g12 : ∀ (_ : True), At w 63 [] (fs (F32 .nilFunc .nilFunc .nilFunc .nilFunc) 36447) ([dnB b Lv x, rowE zK 3 Lv x.l]) ([]) (G 9 (mF 21 [7, 9, 10, 14, 16, 17, 18, 19, 20])) := fun _ => by
    refine hnode _ _ _ _ [(7, [], 8, (mF 21 [9, 10, 14, 16, 17, 18, 19, 20])), (9, [], 8, (mF 21 [7, 10, 14, 16, 17, 18, 19, 20])), (14, [tt 16], 7, (mF 21 [7, 9, 10, 17, 18, 19, 20]))] (by kernel_rfl) kz ?_
    refine ⟨?_, ?_, ?_⟩
    ·
     (refine At.nilRow zK 3 ?_; refine At.app (k := zK) rfl rfl rfl Tryz.underlying25 et_3 .c (.t rfl) (fun _ => by (exact U0)) (RdIn.cutE (k := zK) (wS M2) _ _ (by omega) (by omega)) (by (simp <;> omega)) (fun v1 => ⟨kz, ?_⟩))
     refine W ?_
     exact wk (g9 v1)
    ·
     refine At.lit (k := zK) rfl rfl rfl Tryz.underlying25 et_3 (.k rfl .nil) (.cons rfl .nil) rfl rfl rfl (fun v1 => ⟨kz, ?_⟩)
     refine W ?_
     exact wk (g10 v1)
    ·
     refine WD ?_
     refine sC rfl kz (R.sliceRd Tryz.underlying25 sz_3 (.t rfl) (wK M0) (.t rfl) rfl gO) ?_
     refine W ?_
     exact wk (g8 trivial)
   have g13 : ∀ (_ : True), At w 63 [] (fs (F32 .nilFunc .nilFunc .nilFunc .nilFunc) 40527) ([dnB b Lv x, rowE zK 3 Lv x.l]) ([]) (G 9 (mF 21 [4, 6, 7, 9, 10, 17, 18, 19, 20])) := fun _ => by
    refine hnode _ _ _ _ [(4, [tt 6], 7, (mF 21 [7, 9, 10, 17, 18, 19, 20])), (9, [], 8, (mF 21 [4, 6, 7, 10, 17, 18, 19, 20]))] (by kernel_rfl) kz ?_
    refine ⟨?_, ?_⟩
    ·
     refine WD ?_
     refine sC rfl kz (R.sliceRd Tryz.underlying25 sz_3 (.t rfl) (wK M0) rfl (.t rfl) gO) ?_
     refine W ?_
     exact wk (g8 trivial)
    ·
     refine At.lit (k := zK) rfl rfl rfl Tryz.underlying25 et_3 (.k rfl .nil) (.cons rfl .nil) rfl rfl rfl (fun v1 => ⟨kz, ?_⟩)
     refine W ?_
     exact wk (g11 v1)
   have g14 : ∀ (vl : Value), At w 63 [] (fs (F32 .nilFunc vl .nilFunc .nilFunc) 36559) ([rowE zK 3 vl ([y]), dnB b Lv x, rowE zK 3 Lv x.l]) ([]) (G 10 (mF 21 [4, 6, 7, 10, 14, 16, 17, 18, 19, 20])) := fun vl => by
    refine hnode _ _ _ _ [(4, [tt 6], 8, (mF 21 [7, 10, 14, 16, 17, 18, 19, 20])), (14, [tt 16], 8, (mF 21 [4, 6, 7, 10, 17, 18, 19, 20]))] (by kernel_rfl) kz ?_
    refine ⟨?_, ?_⟩
    ·
     refine WD ?_
     refine sC rfl kz (R.sliceRd Tryz.underlying25 sz_3 (.t rfl) (wK M0) rfl (.t rfl) gO) ?_
     refine W ?_
     exact wk (g10 vl)
    ·
     refine WD ?_
     refine sC rfl kz (R.sliceRd Tryz.underlying25 sz_3 (.t rfl) (wK M0) (.t rfl) rfl gO) ?_
     refine W ?_
     exact wk (g11 vl)
   have g15 : ∀ (_ : True), At w 63 [] (fs (F32 .nilFunc .nilFunc .nilFunc .nilFunc) 36431) ([dnB b Lv x, rowE zK 3 Lv x.l]) ([]) (G 11 (mT 21 [0, 1, 2, 3, 5, 8, 11, 12, 13, 15])) := fun _ => by
    refine hnode _ _ _ _ [(4, [tt 6], 9, (mF 21 [7, 9, 10, 14, 16, 17, 18, 19, 20])), (9, [], 10, (mF 21 [4, 6, 7, 10, 14, 16, 17, 18, 19, 20])), (14, [tt 16], 9, (mF 21 [4, 6, 7, 9, 10, 17, 18, 19, 20]))] (by kernel_rfl) kz ?_
    refine ⟨?_, ?_, ?_⟩
    ·
     refine WD ?_
     refine sC rfl kz (R.sliceRd Tryz.underlying25 sz_3 (.t rfl) (wK M0) rfl (.t rfl) gO) ?_
     refine W ?_
     exact wk (g12 trivial)
    ·
     refine At.lit (k := zK) rfl rfl rfl Tryz.underlying25 et_3 (.k rfl .nil) (.cons rfl .nil) rfl rfl rfl (fun v1 => ⟨kz, ?_⟩)
     refine W ?_
     exact wk (g14 v1)
    ·
     refine WD ?_
     refine sC rfl kz (R.sliceRd Tryz.underlying25 sz_3 (.t rfl) (wK M0) (.t rfl) rfl gO) ?_
     refine W ?_
     exact wk (g13 trivial)
   refine W ?_
   exact wk (g15 trivial)
  ·
   refine W ?_
   (refine At.perm (List.Perm.swap _ _ _) ?_; refine At.reRow (xs' := metD x.l y) .here (metD_not (posZ_of hk1 hk2 c1) c2) ?_)
   exact At.finalX0 (N' := [rowE zK 3 Lv (metD x.l y), dnB b Lv x]) hds how rfl (List.Sublist.refl _) (⟨_, rfl, rfl⟩) _ (.inr rfl)
theorem dn_Step {b ba n : Nat} {wv Lv : Value} {x : Dn} {r : Rr} (hx : x.ok) (hL : x.l.length ≤ 10000) (hn : r.w.length = n) (hN : n ≤ 1000000) (hf : r.few) (hw : r.mid 1152921504606846976) : FnX Tryz.prog 168 [.pointer (some ⟨b, 0, none⟩), .pointer (some ⟨ba, 0, none⟩)] ([]) ([dnB b Lv x, rowE zK 3 Lv x.l, raB ba wv r, raW wv n r]) (fun v N => ∃ Lv2, v = .bool (decide ((x.step r).1.line = 0)) ∧ N = [dnB b Lv2 (x.step r).1, rowE zK 3 Lv2 (x.step r).1.l, raB ba wv (x.step r).2, raW wv n (x.step r).2]) := by
 refine FnX.enter Tryz.func168 (by kernel_rfl) rfl (n := 106) rfl rfl (fun w df hds how => ?_)
 have hx0 := hx
 obtain ⟨hx1, hx2, hx3⟩ := hx
 have hpk := Rr.peek_mid hw (by decide) (3 + x.t)
 refine W ?_
 refine At.callVR rfl rfl rfl (.k rfl .nil) (.nil) (fun hg => r_Psa (by omega)) .all ?_
 refine Z ?_
 refine At.condD (.t rfl) (fun c1 => ?_) (fun c1 => ?_)
 ·
  have hl1 : x.line = 1 := (by simpa using c1)
  refine W ?_
  refine cM rfl rfl rfl (.k rfl (.k rfl .nil)) rfl (.n (.skip (.skip (.take (.take .nil))))) .nil (r_Load (r := r) (i := (3 + x.t)) hn hN hf) keysRa .nil ⟨.all, ?_⟩
  refine W ?_
  refine At.st1 rfl rfl sz_3 (.t rfl) (.t rfl) rfl rfl (.n U0) ⟨.all, ?_⟩
  refine W ?_
  refine At.st1 rfl rfl sz_3 (.t rfl) .c rfl rfl (.n U0) ⟨.all, ?_⟩
  refine W ?_
  refine At.callVR rfl rfl rfl (.k rfl .nil) (.nil) (fun hg => r_Part) .all ?_
  refine Z ?_
  refine At.condN (.t rfl) (fun c2 => ?_) (fun c2 => ?_)
  ·
   refine Z ?_
   refine At.condD (.t rfl) (fun c3 => ?_) (fun c3 => ?_)
   ·
    have hst := Dn.step_1a (r := r) hl1 (by simpa using c2) (by simpa using c3)
    refine W ?_
    refine cX rfl rfl rfl (.k rfl (.k rfl .nil)) rfl (.take (.take .nil)) .nil (dn_met (b := b) (Lv := Lv) (x := (⟨x.th, x.cap, x.wd, x.ver, x.t, 2, (r.peek (3 + x.t)), x.v, x.l⟩ : Dn)) (y := ((r.peek (3 + x.t)) % 16777216 - 2)) (by (dsimp only; omega))) Aprt.nil (fun v B hR => ⟨.all, ?_⟩); obtain ⟨Lv2, rfl, rfl⟩ := hR; refine At.perm (List.Perm.swap _ _ _) ?_
    refine W ?_
    refine cM rfl rfl rfl (.k rfl .nil) rfl (.n (.take .nil)) .nil (dn_next (x := (⟨x.th, x.cap, x.wd, x.ver, x.t, 2, (r.peek (3 + x.t)), x.v, (metD x.l ((r.peek (3 + x.t)) % 16777216 - 2))⟩ : Dn)) (by (dsimp only; omega))) rfl .nil ⟨.all, ?_⟩
    refine Z ?_
    exact At.finalX (N' := [.blk b (.cells _ 231), rowE zK 3 Lv2 (metD x.l ((r.peek (3 + x.t)) % 16777216 - 2)), .blk ba (.cells _ 59), .row wv _ 1 n _]) hds how rfl (.t rfl) (List.Sublist.refl _) (⟨_, by (rw [hst]; done), by (rw [hst, Dn.next_l]; done)⟩)
   ·
    have hst := Dn.step_1b (r := r) hl1 (by simpa using c2) (by simpa using c3)
    refine W ?_
    refine cM rfl rfl rfl (.k rfl .nil) rfl (.n (.take .nil)) .nil (dn_next (x := (⟨x.th, x.cap, x.wd, x.ver, x.t, 2, (r.peek (3 + x.t)), x.v, x.l⟩ : Dn)) (by (dsimp only; omega))) rfl .nil ⟨.all, ?_⟩
    refine Z ?_
    exact At.finalX (N' := [.blk b (.cells _ 231), rowE zK 3 Lv x.l, .blk ba (.cells _ 59), .row wv _ 1 n _]) hds how rfl (.t rfl) (List.Sublist.refl _) (⟨_, by (rw [hst]; done), by (rw [hst, Dn.next_l]; done)⟩)
  ·
   have hst := Dn.step_1c (r := r) hl1 (by simpa using c2)
   refine Y ?_
   exact At.finalX (N' := [.blk b (.cells _ 231), rowE zK 3 Lv x.l, .blk ba (.cells _ 59), .row wv _ 1 n _]) hds how rfl (.t rfl) (List.Sublist.refl _) (⟨_, by (rw [hst]; rfl), by (rw [hst]; rfl)⟩)
 ·
  refine Z ?_
  refine At.condD (.t rfl) (fun c4 => ?_) (fun c4 => ?_)
  ·
   have hl2 : x.line = 2 := (by simpa using c4); have hst := Dn.step_2 (r := r) hl2 
   refine W ?_
   refine cM rfl rfl rfl (.k rfl (.kc (.kc .nil))) rfl (.n (.skip (.skip (.take (.take .nil))))) .nil (r_Add (r := r) (i := 1) (x := 1) hn hN hf (by have := Rr.peek_mid hw (by decide) (1); omega)) keysRa .nil ⟨.all, ?_⟩
   refine W ?_
   refine At.st1 rfl rfl sz_3 (.t rfl) (.t rfl) rfl rfl (.n U0) ⟨.all, ?_⟩
   refine W ?_
   refine At.st1 rfl rfl sz_3 (.t rfl) .c rfl rfl (.n U0) ⟨.all, ?_⟩
   refine Y ?_
   exact At.finalX (N' := [.blk b (.cells _ 231), rowE zK 3 Lv x.l, .blk ba (.cells _ 59), .row wv _ 1 n _]) hds how rfl (.t rfl) (List.Sublist.refl _) (⟨_, by (rw [hst]; rfl), by (rw [hst]; rfl)⟩)
  ·
   refine Z ?_
   refine At.condD (.t rfl) (fun c5 => ?_) (fun c5 => ?_)
   ·
    have hl3 : x.line = 3 := (by simpa using c5); have hst := Dn.step_3 (r := r) hl3 
    refine W ?_
    refine At.drawL ([dnB b Lv x]) [tt 0, tt 1, tt 2, tt 3, tt 4, tt 5, tt 6, tt 7, tt 8, tt 9, tt 11, tt 12, tt 13, tt 14, tt 15] [ff 10, ff 16] [ff 17] (keepOf sl) (by kernel_rfl) (by kernel_rfl) ?_
    refine V ?_
    refine At.stage kI ?_
    refine At.callVR rfl rfl rfl (.k rfl .nil) (.nil) (fun hg => r_Seq) kI ?_
    refine At.callVR rfl rfl rfl (.k rfl (.k rfl .nil)) (.nil) (fun hg => r_Claim) kI ?_
    refine At.stage kz ?_
    refine cM rfl rfl rfl (.k rfl (.k rfl (.k rfl (.k rfl .nil)))) rfl (.n (.skip (.skip (.take (.take .nil))))) .nil (r_Swap (r := r) (i := (3 + x.t)) (o := x.e) (x := claimD (x.e / 16777216) (x.v + 2)) hn hN hf) keysRa .nil ⟨kz, ?_⟩
    refine W ?_
    refine At.st1 rfl rfl sz_3 (.t rfl) .c rfl rfl (.n U0) ⟨.all, ?_⟩
    refine Y ?_
    exact At.finalX (N' := [.blk b (.cells _ 231), rowE zK 3 Lv x.l, .blk ba (.cells _ 59), .row wv _ 1 n _]) hds how rfl (.t rfl) (List.Sublist.refl _) (⟨_, by (rw [hst]; rfl), by (rw [hst]; rfl)⟩)
   ·
    refine Z ?_
    refine At.condD (.t rfl) (fun c6 => ?_) (fun c6 => ?_)
    ·
     have hl4 : x.line = 4 := (by simpa using c6)
     refine W ?_
     refine cM rfl rfl rfl (.k rfl (.k rfl .nil)) rfl (.n (.skip (.skip (.take (.take .nil))))) .nil (r_Load (r := r) (i := (3 + x.t)) hn hN hf) keysRa .nil ⟨.all, ?_⟩
     refine W ?_
     refine At.drawK [tt 0, tt 2, tt 3, tt 4, tt 5, ff 1, ff 6, tt 7, tt 8, tt 9, ff 10, tt 11, tt 12] (by kernel_rfl) (by kernel_rfl) ?_
     refine W ?_
     refine At.callVR rfl rfl rfl (.k rfl .nil) (.nil) (fun hg => r_Seq) kI ?_
     refine At.callVR rfl rfl rfl (.k rfl .nil) (.nil) (fun hg => r_Seq) kI ?_
     refine Z ?_
     refine At.callVR rfl rfl rfl (.cons (.s rfl) .nil) (.nil) (fun hg => r_Part) kI ?_
     refine Z ?_
     refine At.cond (.t rfl) (fun c7 => ?_) (fun c7 => ?_)
     ·
      have hst := Dn.step_4a (r := r) hl4 (by simpa using c7)
      refine W ?_
      refine At.callVR rfl rfl rfl (.k rfl .nil) (.nil) (fun hg => r_Part) .all ?_
      refine W ?_
      refine cX rfl rfl rfl (.k rfl (.k rfl .nil)) rfl (.take (.take .nil)) .nil (dn_met (b := b) (Lv := Lv) (x := x) (y := ((r.peek (3 + x.t)) % 16777216 - 2)) (by omega)) Aprt.nil (fun v B hR => ⟨.all, ?_⟩); obtain ⟨Lv2, rfl, rfl⟩ := hR; refine At.perm (List.Perm.swap _ _ _) ?_
      refine W ?_
      refine cM rfl rfl rfl (.k rfl .nil) rfl (.n (.take .nil)) .nil (dn_next (x := (⟨x.th, x.cap, x.wd, x.ver, x.t, x.line, x.e, x.v, (metD x.l ((r.peek (3 + x.t)) % 16777216 - 2))⟩ : Dn)) (by (dsimp only; omega))) rfl .nil ⟨.all, ?_⟩
      refine Z ?_
      exact At.finalX (N' := [.blk b (.cells _ 231), rowE zK 3 Lv2 (metD x.l ((r.peek (3 + x.t)) % 16777216 - 2)), .blk ba (.cells _ 59), .row wv _ 1 n _]) hds how rfl (.t rfl) (List.Sublist.refl _) (⟨_, by (rw [hst]; done), by (rw [hst, Dn.next_l]; done)⟩)
     ·
      have hst := Dn.step_4b (r := r) hl4 (by simp at c7; omega)
      refine W ?_
      refine cM rfl rfl rfl (.k rfl .nil) rfl (.n (.take .nil)) .nil (dn_next (x := x) (by omega)) rfl .nil ⟨.all, ?_⟩
      refine Z ?_
      exact At.finalX (N' := [.blk b (.cells _ 231), rowE zK 3 Lv x.l, .blk ba (.cells _ 59), .row wv _ 1 n _]) hds how rfl (.t rfl) (List.Sublist.refl _) (⟨_, by (rw [hst]; done), by (rw [hst, Dn.next_l]; done)⟩)
    ·
     have hst := Dn.step_o (r := r) (by simpa using c1) (by simpa using c4) (by simpa using c5) (by simpa using c6)
     refine Z ?_
     exact At.finalX (N' := [.blk b (.cells _ 231), rowE zK 3 Lv x.l, .blk ba (.cells _ 59), .row wv _ 1 n _]) hds how rfl (.t rfl) (List.Sublist.refl _) (⟨_, by (rw [hst]; done), by (rw [hst]; done)⟩)
end Go.Proofs.YtbolanigdkgbdaaGreat
