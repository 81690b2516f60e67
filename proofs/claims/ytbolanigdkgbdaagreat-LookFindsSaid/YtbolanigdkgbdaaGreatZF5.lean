/- Part of the proof: lemmas for what the last file states; no condition. -/
import Derived.Test.YtbolanigdkgbdaaGreatZF4
set_option linter.unusedSectionVars false
namespace Go.Proofs.YtbolanigdkgbdaaGreat
open Go Go.RowKit
set_option maxRecDepth 10000
set_option linter.unusedVariables false
set_option maxHeartbeats 1000000
theorem bt_165 : buildTab Tryz.prog 165 = some (#[.int .i64 0, .int .i64 0, .int .i64 0, .int .i64 0, .int .i64 0, .int .i64 0, .int .i64 0, .int .i64 0, .int .i64 0, .int .i64 0, .int .i64 0], [(0, 4), (4, 1), (5, 1), (6, 1), (7, 1), (8, 1), (9, 1), (10, 1)]) := by kernel_rfl
theorem bt_169 : buildTab Tryz.prog 169 = some (#[.int .i64 0, .int .i64 0, .int .i64 0, .int .i64 0, .int .i64 0, .int .i64 0, .int .i64 0, .int .i64 0, .int .i64 0, .int .i64 0], [(0, 4), (4, 1), (5, 1), (6, 1), (7, 1), (8, 1), (9, 1)]) := by kernel_rfl
theorem bt_172 : buildTab Tryz.prog 172 = some (#[.int .i64 0, .int .i64 0, .int .i64 0, .int .i64 0, .int .i64 0, .int .i64 0, .int .i64 0, .int .i64 0, .int .i64 0, .int .i64 0], [(0, 4), (4, 1), (5, 1), (6, 1), (7, 1), (8, 1), (9, 1)]) := by kernel_rfl
theorem fo_165_0 : fieldOff? Tryz.prog 165 0 = some 0 := by kernel_rfl
theorem fo_165_1 : fieldOff? Tryz.prog 165 1 = some 4 := by kernel_rfl
theorem fo_165_2 : fieldOff? Tryz.prog 165 2 = some 5 := by kernel_rfl
theorem fo_165_3 : fieldOff? Tryz.prog 165 3 = some 6 := by kernel_rfl
theorem fo_165_4 : fieldOff? Tryz.prog 165 4 = some 7 := by kernel_rfl
theorem fo_165_5 : fieldOff? Tryz.prog 165 5 = some 8 := by kernel_rfl
theorem fo_165_6 : fieldOff? Tryz.prog 165 6 = some 9 := by kernel_rfl
theorem fo_165_7 : fieldOff? Tryz.prog 165 7 = some 10 := by kernel_rfl
theorem fo_169_0 : fieldOff? Tryz.prog 169 0 = some 0 := by kernel_rfl
theorem fo_169_1 : fieldOff? Tryz.prog 169 1 = some 4 := by kernel_rfl
theorem fo_169_2 : fieldOff? Tryz.prog 169 2 = some 5 := by kernel_rfl
theorem fo_169_3 : fieldOff? Tryz.prog 169 3 = some 6 := by kernel_rfl
theorem fo_169_4 : fieldOff? Tryz.prog 169 4 = some 7 := by kernel_rfl
theorem fo_169_5 : fieldOff? Tryz.prog 169 5 = some 8 := by kernel_rfl
theorem fo_169_6 : fieldOff? Tryz.prog 169 6 = some 9 := by kernel_rfl
theorem fo_172_0 : fieldOff? Tryz.prog 172 0 = some 0 := by kernel_rfl
theorem fo_172_1 : fieldOff? Tryz.prog 172 1 = some 4 := by kernel_rfl
theorem fo_172_2 : fieldOff? Tryz.prog 172 2 = some 5 := by kernel_rfl
theorem fo_172_3 : fieldOff? Tryz.prog 172 3 = some 6 := by kernel_rfl
theorem fo_172_4 : fieldOff? Tryz.prog 172 4 = some 7 := by kernel_rfl
theorem fo_172_5 : fieldOff? Tryz.prog 172 5 = some 8 := by kernel_rfl
theorem fo_172_6 : fieldOff? Tryz.prog 172 6 = some 9 := by kernel_rfl
theorem fo_23_3 : fieldOff? Tryz.prog 23 3 = some 3 := by kernel_rfl
structure Dw where
  th : Int
  cap : Int
  wd : Int
  ver : Int
  key : Int
  line : Int
  x : Int
  cur : Int
  n : Int
  at_ : Int
abbrev dwC (x : Dw) : Array Value := #[.int .i64 x.th, .int .i64 x.cap, .int .i64 x.wd, .int .i64 x.ver, .int .i64 x.key, .int .i64 x.line, .int .i64 x.x, .int .i64 x.cur, .int .i64 x.n, .int .i64 x.at_]
abbrev dwB (b : Nat) (x : Dw) : Ent := .blk b (.cells (dwC x) 169)
structure Dw.ok (x : Dw) : Prop where
  th : 0 ≤ x.th ∧ x.th ≤ 1000000
  key : 0 ≤ x.key ∧ x.key ≤ 255
  xx : -1152921504606846976 ≤ x.x ∧ x.x ≤ 1152921504606846976
  cur : -1152921504606846976 ≤ x.cur ∧ x.cur ≤ 1152921504606846976
  n : -1152921504606846976 ≤ x.n ∧ x.n ≤ 1152921504606846976
abbrev Dw.head (x : Dw) : Dw := ⟨x.th, x.cap, x.wd, x.ver, x.key, 5, x.x, 7 + x.th, x.n, x.at_⟩
abbrev Dw.ends (x : Dw) : Dw := ⟨x.th, x.cap, x.wd, x.ver, x.key, 0, x.x, x.cur, x.n, x.cur⟩
structure Dc where
  th : Int
  cap : Int
  wd : Int
  ver : Int
  t : Int
  seq : Int
  line : Int
  v : Int
  version : Int
  e : Int
abbrev dcC (x : Dc) : Array Value := #[.int .i64 x.th, .int .i64 x.cap, .int .i64 x.wd, .int .i64 x.ver, .int .i64 x.t, .int .i64 x.seq, .int .i64 x.line, .int .i64 x.v, .int .i64 x.version, .int .i64 x.e]
abbrev dcB (b : Nat) (x : Dc) : Ent := .blk b (.cells (dcC x) 172)
structure Dc.ok (x : Dc) : Prop where
  tt : 0 ≤ x.t ∧ x.t ≤ 1000000
  vv : -1152921504606846976 ≤ x.v ∧ x.v ≤ 1152921504606846976
structure Dx where
  th : Int
  cap : Int
  wd : Int
  ver : Int
  chunk : Int
  key : Int
  data : Int
  line : Int
  i : Int
  g : Int
  version : Int
abbrev dxC (x : Dx) : Array Value := #[.int .i64 x.th, .int .i64 x.cap, .int .i64 x.wd, .int .i64 x.ver, .int .i64 x.chunk, .int .i64 x.key, .int .i64 x.data, .int .i64 x.line, .int .i64 x.i, .int .i64 x.g, .int .i64 x.version]
abbrev dxB (b : Nat) (x : Dx) : Ent := .blk b (.cells (dxC x) 165)
structure Dx.ok (x : Dx) : Prop where
  chunk : -1152921504606846976 ≤ x.chunk ∧ x.chunk ≤ 1152921504606846976
  ii : -1 ≤ x.i ∧ x.i ≤ 1000
  gg : -1152921504606846976 ≤ x.g ∧ x.g ≤ 1152921504606846976
def Dw.step (x : Dw) (r : Rr) : Dw × Rr :=
  if x.line = 1 then if r.peek (3 + x.th + x.key / 16) = 0 then ((⟨x.th, x.cap, x.wd, x.ver, x.key, 2, r.peek (3 + x.th + x.key / 16), x.cur, x.n, x.at_⟩ : Dw).head, r.load (3 + x.th + x.key / 16)) else ((⟨x.th, x.cap, x.wd, x.ver, x.key, 2, r.peek (3 + x.th + x.key / 16), x.cur, x.n, x.at_⟩ : Dw), r.load (3 + x.th + x.key / 16))
  else if x.line = 2 then if ¬ r.peek (x.x + 6) = 0 then ((⟨x.th, x.cap, x.wd, x.ver, x.key, 3, x.x, x.cur, x.n, x.at_⟩ : Dw).head, r.load (x.x + 6)) else ((⟨x.th, x.cap, x.wd, x.ver, x.key, 3, x.x, x.cur, x.n, x.at_⟩ : Dw), r.load (x.x + 6))
  else if x.line = 3 then if r.peek x.x ≤ x.key then (⟨x.th, x.cap, x.wd, x.ver, x.key, 5, x.x, x.x, x.n, x.at_⟩, r.load x.x) else (x.head, r.load x.x)
  else if x.line = 5 then if r.peek (x.cur + 2) / 2 = 0 then ((⟨x.th, x.cap, x.wd, x.ver, x.key, 6, x.x, x.cur, r.peek (x.cur + 2) / 2, x.at_⟩ : Dw).ends, r.load (x.cur + 2)) else ((⟨x.th, x.cap, x.wd, x.ver, x.key, 6, x.x, x.cur, r.peek (x.cur + 2) / 2, x.at_⟩ : Dw), r.load (x.cur + 2))
  else if x.line = 6 then if r.peek x.n ≤ x.key then (⟨x.th, x.cap, x.wd, x.ver, x.key, 5, x.x, x.n, x.n, x.at_⟩, r.load x.n) else (x.ends, r.load x.n)
  else (x, r)
theorem Dw.step_1a {x : Dw} {r : Rr} (h : x.line = 1) (h0 : r.peek (3 + x.th + x.key / 16) = 0) : Dw.step x r = ((⟨x.th, x.cap, x.wd, x.ver, x.key, 2, r.peek (3 + x.th + x.key / 16), x.cur, x.n, x.at_⟩ : Dw).head, r.load (3 + x.th + x.key / 16)) := by unfold Dw.step; rw [if_pos h, if_pos h0]
theorem Dw.step_1b {x : Dw} {r : Rr} (h : x.line = 1) (h0 : ¬ (r.peek (3 + x.th + x.key / 16) = 0)) : Dw.step x r = ((⟨x.th, x.cap, x.wd, x.ver, x.key, 2, r.peek (3 + x.th + x.key / 16), x.cur, x.n, x.at_⟩ : Dw), r.load (3 + x.th + x.key / 16)) := by unfold Dw.step; rw [if_pos h, if_neg h0]
theorem Dw.step_2a {x : Dw} {r : Rr} (h : x.line = 2) (h0 : ¬ r.peek (x.x + 6) = 0) : Dw.step x r = ((⟨x.th, x.cap, x.wd, x.ver, x.key, 3, x.x, x.cur, x.n, x.at_⟩ : Dw).head, r.load (x.x + 6)) := by unfold Dw.step; rw [if_neg (by omega), if_pos h, if_pos h0]
theorem Dw.step_2b {x : Dw} {r : Rr} (h : x.line = 2) (h0 : ¬ (¬ r.peek (x.x + 6) = 0)) : Dw.step x r = ((⟨x.th, x.cap, x.wd, x.ver, x.key, 3, x.x, x.cur, x.n, x.at_⟩ : Dw), r.load (x.x + 6)) := by unfold Dw.step; rw [if_neg (by omega), if_pos h, if_neg h0]
theorem Dw.step_3a {x : Dw} {r : Rr} (h : x.line = 3) (h0 : r.peek x.x ≤ x.key) : Dw.step x r = (⟨x.th, x.cap, x.wd, x.ver, x.key, 5, x.x, x.x, x.n, x.at_⟩, r.load x.x) := by unfold Dw.step; rw [if_neg (by omega), if_neg (by omega), if_pos h, if_pos h0]
theorem Dw.step_3b {x : Dw} {r : Rr} (h : x.line = 3) (h0 : ¬ (r.peek x.x ≤ x.key)) : Dw.step x r = (x.head, r.load x.x) := by unfold Dw.step; rw [if_neg (by omega), if_neg (by omega), if_pos h, if_neg h0]
theorem Dw.step_5a {x : Dw} {r : Rr} (h : x.line = 5) (h0 : r.peek (x.cur + 2) / 2 = 0) : Dw.step x r = ((⟨x.th, x.cap, x.wd, x.ver, x.key, 6, x.x, x.cur, r.peek (x.cur + 2) / 2, x.at_⟩ : Dw).ends, r.load (x.cur + 2)) := by unfold Dw.step; rw [if_neg (by omega), if_neg (by omega), if_neg (by omega), if_pos h, if_pos h0]
theorem Dw.step_5b {x : Dw} {r : Rr} (h : x.line = 5) (h0 : ¬ (r.peek (x.cur + 2) / 2 = 0)) : Dw.step x r = ((⟨x.th, x.cap, x.wd, x.ver, x.key, 6, x.x, x.cur, r.peek (x.cur + 2) / 2, x.at_⟩ : Dw), r.load (x.cur + 2)) := by unfold Dw.step; rw [if_neg (by omega), if_neg (by omega), if_neg (by omega), if_pos h, if_neg h0]
theorem Dw.step_6a {x : Dw} {r : Rr} (h : x.line = 6) (h0 : r.peek x.n ≤ x.key) : Dw.step x r = (⟨x.th, x.cap, x.wd, x.ver, x.key, 5, x.x, x.n, x.n, x.at_⟩, r.load x.n) := by unfold Dw.step; rw [if_neg (by omega), if_neg (by omega), if_neg (by omega), if_neg (by omega), if_pos h, if_pos h0]
theorem Dw.step_6b {x : Dw} {r : Rr} (h : x.line = 6) (h0 : ¬ (r.peek x.n ≤ x.key)) : Dw.step x r = (x.ends, r.load x.n) := by unfold Dw.step; rw [if_neg (by omega), if_neg (by omega), if_neg (by omega), if_neg (by omega), if_pos h, if_neg h0]
theorem Dw.step_o {x : Dw} {r : Rr} (h1 : ¬ x.line = 1) (h2 : ¬ x.line = 2) (h3 : ¬ x.line = 3) (h5 : ¬ x.line = 5) (h6 : ¬ x.line = 6) : Dw.step x r = (x, r) := by unfold Dw.step; rw [if_neg h1, if_neg h2, if_neg h3, if_neg h5, if_neg h6]
def Dc.step (x : Dc) (r : Rr) : Dc × Rr :=
  if x.line = 1 then if x.ver ≤ r.peek 1 then ((⟨x.th, x.cap, x.wd, x.ver, x.t, x.seq, 0, x.v, x.version, 15⟩ : Dc), r.load 1) else ((⟨x.th, x.cap, x.wd, x.ver, x.t, x.seq, 2, x.v, x.version, x.e⟩ : Dc), r.load 1)
  else if x.line = 2 then ((⟨x.th, x.cap, x.wd, x.ver, x.t, x.seq, 3, x.v, x.version, x.e⟩ : Dc), r.store (3 + x.t) (claimD x.seq 1))
  else if x.line = 3 then ((⟨x.th, x.cap, x.wd, x.ver, x.t, x.seq, 4, (r.peek 1), x.version, x.e⟩ : Dc), r.add 1 1)
  else if x.line = 4 then ((⟨x.th, x.cap, x.wd, x.ver, x.t, x.seq, 5, x.v, x.version, x.e⟩ : Dc), r.swap (3 + x.t) (claimD x.seq 1) (claimD x.seq (x.v + 2)))
  else if x.line = 5 then ((⟨x.th, x.cap, x.wd, x.ver, x.t, x.seq, 0, x.v, (r.peek (3 + x.t) % 16777216 - 2), x.e⟩ : Dc), r.load (3 + x.t))
  else (x, r)
theorem Dc.step_1a {x : Dc} {r : Rr} (h : x.line = 1) (h0 : x.ver ≤ r.peek 1) : Dc.step x r = ((⟨x.th, x.cap, x.wd, x.ver, x.t, x.seq, 0, x.v, x.version, 15⟩ : Dc), r.load 1) := by unfold Dc.step; rw [if_pos h, if_pos h0]
theorem Dc.step_1b {x : Dc} {r : Rr} (h : x.line = 1) (h0 : ¬ (x.ver ≤ r.peek 1)) : Dc.step x r = ((⟨x.th, x.cap, x.wd, x.ver, x.t, x.seq, 2, x.v, x.version, x.e⟩ : Dc), r.load 1) := by unfold Dc.step; rw [if_pos h, if_neg h0]
theorem Dc.step_2 {x : Dc} {r : Rr} (h : x.line = 2)  : Dc.step x r = ((⟨x.th, x.cap, x.wd, x.ver, x.t, x.seq, 3, x.v, x.version, x.e⟩ : Dc), r.store (3 + x.t) (claimD x.seq 1)) := by unfold Dc.step; rw [if_neg (by omega), if_pos h]
theorem Dc.step_3 {x : Dc} {r : Rr} (h : x.line = 3)  : Dc.step x r = ((⟨x.th, x.cap, x.wd, x.ver, x.t, x.seq, 4, (r.peek 1), x.version, x.e⟩ : Dc), r.add 1 1) := by unfold Dc.step; rw [if_neg (by omega), if_neg (by omega), if_pos h]
theorem Dc.step_4 {x : Dc} {r : Rr} (h : x.line = 4)  : Dc.step x r = ((⟨x.th, x.cap, x.wd, x.ver, x.t, x.seq, 5, x.v, x.version, x.e⟩ : Dc), r.swap (3 + x.t) (claimD x.seq 1) (claimD x.seq (x.v + 2))) := by unfold Dc.step; rw [if_neg (by omega), if_neg (by omega), if_neg (by omega), if_pos h]
theorem Dc.step_5 {x : Dc} {r : Rr} (h : x.line = 5)  : Dc.step x r = ((⟨x.th, x.cap, x.wd, x.ver, x.t, x.seq, 0, x.v, (r.peek (3 + x.t) % 16777216 - 2), x.e⟩ : Dc), r.load (3 + x.t)) := by unfold Dc.step; rw [if_neg (by omega), if_neg (by omega), if_neg (by omega), if_neg (by omega), if_pos h]
theorem Dc.step_o {x : Dc} {r : Rr} (h1 : ¬ x.line = 1) (h2 : ¬ x.line = 2) (h3 : ¬ x.line = 3) (h4 : ¬ x.line = 4) (h5 : ¬ x.line = 5) : Dc.step x r = (x, r) := by unfold Dc.step; rw [if_neg h1, if_neg h2, if_neg h3, if_neg h4, if_neg h5]
def Dx.step (x : Dx) (r : Rr) : Dx × Rr :=
  if x.line = 1 then if ¬ r.peek (x.chunk + 6) = 0 then ((⟨x.th, x.cap, x.wd, x.ver, x.chunk, x.key, x.data, 0, x.i, x.g, x.version⟩ : Dx), r.load (x.chunk + 6)) else ((⟨x.th, x.cap, x.wd, x.ver, x.chunk, x.key, x.data, 2, x.i, x.g, x.version⟩ : Dx), r.load (x.chunk + 6))
  else if x.line = 2 then if r.peek (x.chunk + 1) < 0 ∨ x.cap ≤ r.peek (x.chunk + 1) then ((⟨x.th, x.cap, x.wd, x.ver, x.chunk, x.key, x.data, 0, x.i, x.g, x.version⟩ : Dx), r.add (x.chunk + 1) 1) else ((⟨x.th, x.cap, x.wd, x.ver, x.chunk, x.key, x.data, 3, (r.peek (x.chunk + 1)), x.g, x.version⟩ : Dx), r.add (x.chunk + 1) 1)
  else if x.line = 3 then ((⟨x.th, x.cap, x.wd, x.ver, x.chunk, x.key, x.data, 4, x.i, x.g, x.version⟩ : Dx), r.store ((x.chunk + 7 + 3 * x.i) + 1) x.key)
  else if x.line = 4 then ((⟨x.th, x.cap, x.wd, x.ver, x.chunk, x.key, x.data, 5, x.i, x.g, x.version⟩ : Dx), r.store ((x.chunk + 7 + 3 * x.i) + 2) x.data)
  else if x.line = 5 then if r.swaps (x.chunk + 7 + 3 * x.i) 0 = false then ((⟨x.th, x.cap, x.wd, x.ver, x.chunk, x.key, x.data, 0, x.i, x.g, x.version⟩ : Dx), r.swap (x.chunk + 7 + 3 * x.i) 0 1) else ((⟨x.th, x.cap, x.wd, x.ver, x.chunk, x.key, x.data, 6, x.i, x.g, x.version⟩ : Dx), r.swap (x.chunk + 7 + 3 * x.i) 0 1)
  else if x.line = 6 then ((⟨x.th, x.cap, x.wd, x.ver, x.chunk, x.key, x.data, 7, x.i, (r.peek 1), x.version⟩ : Dx), r.load 1)
  else if x.line = 7 then ((⟨x.th, x.cap, x.wd, x.ver, x.chunk, x.key, x.data, 8, x.i, x.g, x.version⟩ : Dx), r.swap (x.chunk + 7 + 3 * x.i) 1 (min (max x.g 0) 16777212 + 3))
  else if x.line = 8 then ((⟨x.th, x.cap, x.wd, x.ver, x.chunk, x.key, x.data, 0, x.i, x.g, (verD (r.peek (x.chunk + 7 + 3 * x.i)))⟩ : Dx), r.load (x.chunk + 7 + 3 * x.i))
  else (x, r)
theorem Dx.step_1a {x : Dx} {r : Rr} (h : x.line = 1) (h0 : ¬ r.peek (x.chunk + 6) = 0) : Dx.step x r = ((⟨x.th, x.cap, x.wd, x.ver, x.chunk, x.key, x.data, 0, x.i, x.g, x.version⟩ : Dx), r.load (x.chunk + 6)) := by unfold Dx.step; rw [if_pos h, if_pos h0]
theorem Dx.step_1b {x : Dx} {r : Rr} (h : x.line = 1) (h0 : ¬ (¬ r.peek (x.chunk + 6) = 0)) : Dx.step x r = ((⟨x.th, x.cap, x.wd, x.ver, x.chunk, x.key, x.data, 2, x.i, x.g, x.version⟩ : Dx), r.load (x.chunk + 6)) := by unfold Dx.step; rw [if_pos h, if_neg h0]
theorem Dx.step_2a {x : Dx} {r : Rr} (h : x.line = 2) (h0 : r.peek (x.chunk + 1) < 0 ∨ x.cap ≤ r.peek (x.chunk + 1)) : Dx.step x r = ((⟨x.th, x.cap, x.wd, x.ver, x.chunk, x.key, x.data, 0, x.i, x.g, x.version⟩ : Dx), r.add (x.chunk + 1) 1) := by unfold Dx.step; rw [if_neg (by omega), if_pos h, if_pos h0]
theorem Dx.step_2b {x : Dx} {r : Rr} (h : x.line = 2) (h0 : ¬ (r.peek (x.chunk + 1) < 0 ∨ x.cap ≤ r.peek (x.chunk + 1))) : Dx.step x r = ((⟨x.th, x.cap, x.wd, x.ver, x.chunk, x.key, x.data, 3, (r.peek (x.chunk + 1)), x.g, x.version⟩ : Dx), r.add (x.chunk + 1) 1) := by unfold Dx.step; rw [if_neg (by omega), if_pos h, if_neg h0]
theorem Dx.step_3 {x : Dx} {r : Rr} (h : x.line = 3)  : Dx.step x r = ((⟨x.th, x.cap, x.wd, x.ver, x.chunk, x.key, x.data, 4, x.i, x.g, x.version⟩ : Dx), r.store ((x.chunk + 7 + 3 * x.i) + 1) x.key) := by unfold Dx.step; rw [if_neg (by omega), if_neg (by omega), if_pos h]
theorem Dx.step_4 {x : Dx} {r : Rr} (h : x.line = 4)  : Dx.step x r = ((⟨x.th, x.cap, x.wd, x.ver, x.chunk, x.key, x.data, 5, x.i, x.g, x.version⟩ : Dx), r.store ((x.chunk + 7 + 3 * x.i) + 2) x.data) := by unfold Dx.step; rw [if_neg (by omega), if_neg (by omega), if_neg (by omega), if_pos h]
theorem Dx.step_5a {x : Dx} {r : Rr} (h : x.line = 5) (h0 : r.swaps (x.chunk + 7 + 3 * x.i) 0 = false) : Dx.step x r = ((⟨x.th, x.cap, x.wd, x.ver, x.chunk, x.key, x.data, 0, x.i, x.g, x.version⟩ : Dx), r.swap (x.chunk + 7 + 3 * x.i) 0 1) := by unfold Dx.step; rw [if_neg (by omega), if_neg (by omega), if_neg (by omega), if_neg (by omega), if_pos h, if_pos h0]
theorem Dx.step_5b {x : Dx} {r : Rr} (h : x.line = 5) (h0 : ¬ (r.swaps (x.chunk + 7 + 3 * x.i) 0 = false)) : Dx.step x r = ((⟨x.th, x.cap, x.wd, x.ver, x.chunk, x.key, x.data, 6, x.i, x.g, x.version⟩ : Dx), r.swap (x.chunk + 7 + 3 * x.i) 0 1) := by unfold Dx.step; rw [if_neg (by omega), if_neg (by omega), if_neg (by omega), if_neg (by omega), if_pos h, if_neg h0]
theorem Dx.step_6 {x : Dx} {r : Rr} (h : x.line = 6)  : Dx.step x r = ((⟨x.th, x.cap, x.wd, x.ver, x.chunk, x.key, x.data, 7, x.i, (r.peek 1), x.version⟩ : Dx), r.load 1) := by unfold Dx.step; rw [if_neg (by omega), if_neg (by omega), if_neg (by omega), if_neg (by omega), if_neg (by omega), if_pos h]
theorem Dx.step_7 {x : Dx} {r : Rr} (h : x.line = 7)  : Dx.step x r = ((⟨x.th, x.cap, x.wd, x.ver, x.chunk, x.key, x.data, 8, x.i, x.g, x.version⟩ : Dx), r.swap (x.chunk + 7 + 3 * x.i) 1 (min (max x.g 0) 16777212 + 3)) := by unfold Dx.step; rw [if_neg (by omega), if_neg (by omega), if_neg (by omega), if_neg (by omega), if_neg (by omega), if_neg (by omega), if_pos h]
theorem Dx.step_8 {x : Dx} {r : Rr} (h : x.line = 8)  : Dx.step x r = ((⟨x.th, x.cap, x.wd, x.ver, x.chunk, x.key, x.data, 0, x.i, x.g, (verD (r.peek (x.chunk + 7 + 3 * x.i)))⟩ : Dx), r.load (x.chunk + 7 + 3 * x.i)) := by unfold Dx.step; rw [if_neg (by omega), if_neg (by omega), if_neg (by omega), if_neg (by omega), if_neg (by omega), if_neg (by omega), if_neg (by omega), if_pos h]
theorem Dx.step_o {x : Dx} {r : Rr} (h1 : ¬ x.line = 1) (h2 : ¬ x.line = 2) (h3 : ¬ x.line = 3) (h4 : ¬ x.line = 4) (h5 : ¬ x.line = 5) (h6 : ¬ x.line = 6) (h7 : ¬ x.line = 7) (h8 : ¬ x.line = 8) : Dx.step x r = (x, r) := by unfold Dx.step; rw [if_neg h1, if_neg h2, if_neg h3, if_neg h4, if_neg h5, if_neg h6, if_neg h7, if_neg h8]
theorem dw_New {a b c d key : Int} : Fn Tryz.prog 115 [.agg #[.int .i64 a, .int .i64 b, .int .i64 c, .int .i64 d], .int .i64 key] ([]) ([]) (fun v N H => ∃ b1, v = .pointer (some ⟨b1, 0, none⟩) ∧ N = [dwB b1 (⟨a, b, c, d, key, 1, 0, 0, 0, 0⟩ : Dw)] ∧ H = []) := by
 refine Fn.enter Tryz.func115 (by kernel_rfl) rfl (n := 9) rfl rfl (fun w => ?_)
 refine W ?_
 refine At.box rfl rfl rfl (.t rfl) (fun b1 hb1 => ⟨.all, ?_⟩)
 refine W ?_
 refine eA rfl (R.build bt_169 (.k rfl (.k rfl (.kc .nil))) (.cons rfl (.cons rfl (.cons rfl .nil))) rfl) ?_
 refine At.box rfl rfl rfl (.t rfl) (fun b2 hb2 => ⟨.all, ?_⟩)
 refine W ?_
 exact At.final (N' := [dwB b2 (⟨a, b, c, d, key, 1, 0, 0, 0, 0⟩ : Dw)]) rfl (.t rfl) sl (⟨b2, rfl, rfl, rfl⟩)
theorem dw_head {b : Nat} {x : Dw} (h0 : 0 ≤ x.th ∧ x.th ≤ 1000000) : Fn Tryz.prog 152 [.pointer (some ⟨b, 0, none⟩)] ([]) ([dwB b x]) (IsM (.tuple #[]) [dwB b x.head]) := by
 refine Fn.enter Tryz.func152 (by kernel_rfl) rfl (n := 13) rfl rfl (fun w => ?_)
 refine W ?_
 refine At.callVR rfl rfl rfl (.k rfl .nil) (.nil) (fun hg => r_Head (by omega)) .all ?_
 refine W ?_
 refine At.st1 rfl rfl sz_3 (.t rfl) (.t rfl) rfl rfl (.h U0) ⟨.all, ?_⟩
 refine W ?_
 refine At.st1 rfl rfl sz_3 (.t rfl) .c rfl rfl (.h U0) ⟨.all, ?_⟩
 refine W ?_
 exact At.final0 rfl (List.nil_sublist _) (⟨rfl, rfl, rfl⟩) _ (.inr rfl)
theorem dw_ends {b : Nat} {x : Dw} : Fn Tryz.prog 153 [.pointer (some ⟨b, 0, none⟩)] ([]) ([dwB b x]) (IsM (.tuple #[]) [dwB b x.ends]) := by
 refine Fn.enter Tryz.func153 (by kernel_rfl) rfl (n := 12) rfl rfl (fun w => ?_)
 refine W ?_
 refine At.st1 rfl rfl sz_3 (.t rfl) (.t rfl) rfl rfl (.h U0) ⟨.all, ?_⟩
 refine W ?_
 refine At.st1 rfl rfl sz_3 (.t rfl) .c rfl rfl (.h U0) ⟨.all, ?_⟩
 refine W ?_
 exact At.final0 rfl (List.nil_sublist _) (⟨rfl, rfl, rfl⟩) _ (.inr rfl)
theorem dw_Step {b ba n : Nat} {wv : Value} {x : Dw} {r : Rr} (hx : x.ok) (hn : r.w.length = n) (hN : n ≤ 1000000) (hf : r.few) (hw : r.mid 1152921504606846976) : Fn Tryz.prog 120 [.pointer (some ⟨b, 0, none⟩), .pointer (some ⟨ba, 0, none⟩)] ([]) ([dwB b x, raB ba wv r, raW wv n r]) (IsM (.bool (decide ((x.step r).1.line = 0))) [dwB b (x.step r).1, raB ba wv (x.step r).2, raW wv n (x.step r).2]) := by
 refine Fn.enter Tryz.func120 (by kernel_rfl) rfl (n := 130) rfl rfl (fun w => ?_)
 have hx0 := hx
 obtain ⟨hx1, hx2, hx3, hx4, hx5⟩ := hx
 refine Z ?_
 refine At.condD (.t rfl) (fun c1 => ?_) (fun c1 => ?_)
 ·
  have hl1 : x.line = 1 := (by simpa using c1)
  refine W ?_
  refine At.drawM ([dwB b x]) ([]) [tt 0, tt 1, tt 2, tt 3, tt 4, tt 5, tt 7, tt 8, tt 9] [tt 6, tt 10, ff 11, ff 12] [tt 13, tt 14, ff 15, tt 16, tt 17, ff 18] (keepOf sl) (fun _ h => nomatch h) (by kernel_rfl) (by kernel_rfl) ?_
  refine V ?_
  refine At.stage kz ?_
  refine W ?_
  refine At.callVR rfl rfl rfl (.k rfl (.k rfl .nil)) (.nil) (fun hg => r_Hint (by omega) (by omega)) kz ?_
  refine cM rfl rfl rfl (.k rfl (.k rfl .nil)) rfl (.h (.skip (.take (.take .nil)))) .nil (r_Load (r := r) (i := 3 + x.th + x.key / 16) hn hN hf) keysRa .nil ⟨kz, ?_⟩
  refine At.stage Cl.none ?_
  refine W ?_
  refine At.st1 rfl rfl sz_3 (.t rfl) (.t rfl) rfl rfl (.h U0) ⟨Cl.none, ?_⟩
  refine W ?_
  refine At.st1 rfl rfl sz_3 (.t rfl) .c rfl rfl (.h U0) ⟨Cl.none, ?_⟩
  refine Z ?_
  refine At.condD (.t rfl) (fun c2 => ?_) (fun c2 => ?_)
  ·
   have hst := Dw.step_1a (r := r) hl1 (by simpa using c2)
   refine W ?_
   refine cM rfl rfl rfl (.k rfl .nil) rfl (.h (.take .nil)) .nil (dw_head (x := (⟨x.th, x.cap, x.wd, x.ver, x.key, 2, r.peek (3 + x.th + x.key / 16), x.cur, x.n, x.at_⟩ : Dw)) hx1) rfl .nil ⟨.all, ?_⟩
   refine Z ?_
   exact fT rfl (.t rfl) (⟨by (rw [hst]; done), rfl, by (rw [hst]; done)⟩)
  ·
   have hst := Dw.step_1b (r := r) hl1 (by simpa using c2)
   refine Y ?_
   exact fT rfl (.t rfl) (⟨by (rw [hst]; rfl), rfl, by (rw [hst]; rfl)⟩)
 ·
  refine Z ?_
  refine At.condD (.t rfl) (fun c3 => ?_) (fun c3 => ?_)
  ·
   have hl2 : x.line = 2 := (by simpa using c3)
   refine W ?_
   refine At.st1 rfl rfl sz_3 (.t rfl) .c rfl rfl (.h U0) ⟨.all, ?_⟩
   refine W ?_
   refine cM rfl rfl rfl (.k rfl (.k rfl .nil)) rfl (.h (.skip (.take (.take .nil)))) .nil (r_Load (r := r) (i := x.x + 6) hn hN hf) keysRa .nil ⟨.all, ?_⟩
   refine Z ?_
   refine At.condN (.t rfl) (fun c4 => ?_) (fun c4 => ?_)
   ·
    have hst := Dw.step_2a (r := r) hl2 (by simpa using c4)
    refine W ?_
    refine cM rfl rfl rfl (.k rfl .nil) rfl (.h (.take .nil)) .nil (dw_head (x := (⟨x.th, x.cap, x.wd, x.ver, x.key, 3, x.x, x.cur, x.n, x.at_⟩ : Dw)) hx1) rfl .nil ⟨.all, ?_⟩
    refine Z ?_
    exact fT rfl (.t rfl) (⟨by (rw [hst]; done), rfl, by (rw [hst]; done)⟩)
   ·
    have hst := Dw.step_2b (r := r) hl2 (by simpa using c4)
    refine Y ?_
    exact fT rfl (.t rfl) (⟨by (rw [hst]; rfl), rfl, by (rw [hst]; rfl)⟩)
  ·
   refine Z ?_
   refine At.condD (.t rfl) (fun c5 => ?_) (fun c5 => ?_)
   ·
    have hl3 : x.line = 3 := (by simpa using c5)
    refine W ?_
    refine At.drawL ([dwB b x]) [tt 0, tt 1, tt 2, tt 3, tt 4, tt 5, tt 7, tt 8, tt 9, tt 10] [] [ff 6, tt 11] (keepOf sl) (by kernel_rfl) (by kernel_rfl) ?_
    refine sC rfl kz (R.move (.t rfl)) ?_
    refine sC rfl kz (R.move (.t rfl)) ?_
    refine sC rfl kz (R.nilCheckP (.t rfl)) ?_
    refine sC rfl kz (R.fieldAddr fo_169_3 (.t rfl)) ?_
    refine sC rfl kz (R.load Tryz.underlying3 rfl (.t rfl) (cK M0 rfl)) ?_
    refine sC rfl kz (R.as (R.addI (.t rfl) .c gO) (fun _ => congrArg (Value.int .i64) (Int.add_zero x.x))) ?_
    refine V ?_
    refine At.stage kI ?_
    refine At.stage kz ?_
    refine cM rfl rfl rfl (.k rfl (.k rfl .nil)) rfl (.h (.skip (.take (.take .nil)))) .nil (r_Load (r := r) (i := x.x) hn hN hf) keysRa .nil ⟨kz, ?_⟩
    refine Z ?_
    refine At.condD (.t rfl) (fun c6 => ?_) (fun c6 => ?_)
    ·
     have hst := Dw.step_3a (r := r) hl3 (by simpa using c6)
     refine W ?_
     refine At.st1 rfl rfl sz_3 (.t rfl) (.t rfl) rfl rfl (.h U0) ⟨.all, ?_⟩
     refine W ?_
     refine At.st1 rfl rfl sz_3 (.t rfl) .c rfl rfl (.h U0) ⟨.all, ?_⟩
     refine Y ?_
     exact fT rfl (.t rfl) (⟨by (rw [hst]; rfl), rfl, by (rw [hst]; rfl)⟩)
    ·
     have hst := Dw.step_3b (r := r) hl3 (by simpa using c6)
     refine W ?_
     refine cM rfl rfl rfl (.k rfl .nil) rfl (.h (.take .nil)) .nil (dw_head (x := x) hx1) rfl .nil ⟨.all, ?_⟩
     refine Z ?_
     exact fT rfl (.t rfl) (⟨by (rw [hst]; done), rfl, by (rw [hst]; done)⟩)
   ·
    refine Z ?_
    refine At.condD (.t rfl) (fun c7 => ?_) (fun c7 => ?_)
    ·
     have hl5 : x.line = 5 := (by simpa using c7)
     refine W ?_
     refine cM rfl rfl rfl (.k rfl (.k rfl .nil)) rfl (.h (.skip (.take (.take .nil)))) .nil (r_Load (r := r) (i := x.cur + 2) hn hN hf) keysRa .nil ⟨.all, ?_⟩
     refine At.callVR rfl rfl rfl (.k rfl .nil) (.nil) (fun hg => r_At) .all ?_
     refine W ?_
     refine At.st1 rfl rfl sz_3 (.t rfl) (.t rfl) rfl rfl (.h U0) ⟨.all, ?_⟩
     refine W ?_
     refine At.st1 rfl rfl sz_3 (.t rfl) .c rfl rfl (.h U0) ⟨.all, ?_⟩
     refine Z ?_
     refine At.condD (.t rfl) (fun c8 => ?_) (fun c8 => ?_)
     ·
      have hst := Dw.step_5a (r := r) hl5 (by simpa using c8)
      refine W ?_
      refine cM rfl rfl rfl (.k rfl .nil) rfl (.h (.take .nil)) .nil (dw_ends (x := (⟨x.th, x.cap, x.wd, x.ver, x.key, 6, x.x, x.cur, r.peek (x.cur + 2) / 2, x.at_⟩ : Dw))) rfl .nil ⟨.all, ?_⟩
      refine Y ?_
      exact fT rfl (.t rfl) (⟨by (rw [hst]; rfl), rfl, by (rw [hst]; done)⟩)
     ·
      have hst := Dw.step_5b (r := r) hl5 (by simpa using c8)
      refine Y ?_
      exact fT rfl (.t rfl) (⟨by (rw [hst]; rfl), rfl, by (rw [hst]; rfl)⟩)
    ·
     refine Z ?_
     refine At.condD (.t rfl) (fun c9 => ?_) (fun c9 => ?_)
     ·
      have hl6 : x.line = 6 := (by simpa using c9)
      refine W ?_
      refine At.drawL ([dwB b x]) [tt 0, tt 1, tt 2, tt 3, tt 4, tt 5, tt 7, tt 8, tt 9, tt 10] [] [ff 6, tt 11] (keepOf sl) (by kernel_rfl) (by kernel_rfl) ?_
      refine sC rfl kz (R.move (.t rfl)) ?_
      refine sC rfl kz (R.move (.t rfl)) ?_
      refine sC rfl kz (R.nilCheckP (.t rfl)) ?_
      refine sC rfl kz (R.fieldAddr fo_169_5 (.t rfl)) ?_
      refine sC rfl kz (R.load Tryz.underlying3 rfl (.t rfl) (cK M0 rfl)) ?_
      refine sC rfl kz (R.as (R.addI (.t rfl) .c gO) (fun _ => congrArg (Value.int .i64) (Int.add_zero x.n))) ?_
      refine V ?_
      refine At.stage kI ?_
      refine At.stage kz ?_
      refine cM rfl rfl rfl (.k rfl (.k rfl .nil)) rfl (.h (.skip (.take (.take .nil)))) .nil (r_Load (r := r) (i := x.n) hn hN hf) keysRa .nil ⟨kz, ?_⟩
      refine Z ?_
      refine At.condD (.t rfl) (fun c10 => ?_) (fun c10 => ?_)
      ·
       have hst := Dw.step_6a (r := r) hl6 (by simpa using c10)
       refine W ?_
       refine At.st1 rfl rfl sz_3 (.t rfl) (.t rfl) rfl rfl (.h U0) ⟨.all, ?_⟩
       refine W ?_
       refine At.st1 rfl rfl sz_3 (.t rfl) .c rfl rfl (.h U0) ⟨.all, ?_⟩
       refine Y ?_
       exact fT rfl (.t rfl) (⟨by (rw [hst]; rfl), rfl, by (rw [hst]; rfl)⟩)
      ·
       have hst := Dw.step_6b (r := r) hl6 (by simpa using c10)
       refine W ?_
       refine cM rfl rfl rfl (.k rfl .nil) rfl (.h (.take .nil)) .nil (dw_ends (x := x)) rfl .nil ⟨.all, ?_⟩
       refine Y ?_
       exact fT rfl (.t rfl) (⟨by (rw [hst]; rfl), rfl, by (rw [hst]; done)⟩)
     ·
      have hst := Dw.step_o (r := r) (by simpa using c1) (by simpa using c3) (by simpa using c5) (by simpa using c7) (by simpa using c9)
      refine Z ?_
      exact fT rfl (.t rfl) (⟨by (rw [hst]; done), rfl, by (rw [hst]; done)⟩)
theorem dc_New {a b c d t seq : Int} : Fn Tryz.prog 116 [.agg #[.int .i64 a, .int .i64 b, .int .i64 c, .int .i64 d], .int .i64 t, .int .i64 seq] ([]) ([]) (fun v N H => ∃ b1, v = .pointer (some ⟨b1, 0, none⟩) ∧ N = [dcB b1 (⟨a, b, c, d, t, seq, 1, 0, 0, 0⟩ : Dc)] ∧ H = []) := by
 refine Fn.enter Tryz.func116 (by kernel_rfl) rfl (n := 12) rfl rfl (fun w => ?_)
 refine W ?_
 refine At.box rfl rfl rfl (.t rfl) (fun b1 hb1 => ⟨.all, ?_⟩)
 refine W ?_
 refine eA rfl (R.build bt_172 (.k rfl (.k rfl (.k rfl (.kc .nil)))) (.cons rfl (.cons rfl (.cons rfl (.cons rfl .nil)))) rfl) ?_
 refine At.box rfl rfl rfl (.t rfl) (fun b2 hb2 => ⟨.all, ?_⟩)
 refine W ?_
 exact At.final (N' := [dcB b2 (⟨a, b, c, d, t, seq, 1, 0, 0, 0⟩ : Dc)]) rfl (.t rfl) sl (⟨b2, rfl, rfl, rfl⟩)
theorem dc_Step {b ba n : Nat} {wv : Value} {x : Dc} {r : Rr} (hx : x.ok) (hn : r.w.length = n) (hN : n ≤ 1000000) (hf : r.few) (hw : r.mid 1152921504606846976) : Fn Tryz.prog 123 [.pointer (some ⟨b, 0, none⟩), .pointer (some ⟨ba, 0, none⟩)] ([]) ([dcB b x, raB ba wv r, raW wv n r]) (IsM (.bool (decide ((x.step r).1.line = 0))) [dcB b (x.step r).1, raB ba wv (x.step r).2, raW wv n (x.step r).2]) := by
 refine Fn.enter Tryz.func123 (by kernel_rfl) rfl (n := 98) rfl rfl (fun w => ?_)
 have hx0 := hx
 obtain ⟨hx1, hx2⟩ := hx
 refine W ?_
 refine At.callVR rfl rfl rfl (.k rfl .nil) (.nil) (fun hg => r_Psa (by omega)) .all ?_
 refine Z ?_
 refine At.condD (.t rfl) (fun c1 => ?_) (fun c1 => ?_)
 ·
  have hl1 : x.line = 1 := (by simpa using c1)
  refine W ?_
  refine At.st1 rfl rfl sz_3 (.t rfl) .c rfl rfl (.h U0) ⟨.all, ?_⟩
  refine W ?_
  refine At.drawL ([dcB b (⟨x.th, x.cap, x.wd, x.ver, x.t, x.seq, 2, x.v, x.version, x.e⟩ : Dc)]) [tt 0, tt 2, tt 3, tt 4, tt 5, tt 6] [] [ff 1, tt 7] (keepOf sl) (by kernel_rfl) (by kernel_rfl) ?_
  refine V ?_
  refine At.stage kI ?_
  refine At.stage kz ?_
  refine cM rfl rfl rfl (.k rfl (.kc .nil)) rfl (.h (.skip (.take (.take .nil)))) .nil (r_Load (r := r) (i := 1) hn hN hf) keysRa .nil ⟨kz, ?_⟩
  refine Z ?_
  refine At.condD (.t rfl) (fun c2 => ?_) (fun c2 => ?_)
  ·
   have hst := Dc.step_1a (r := r) hl1 (by simpa using c2)
   refine W ?_
   refine At.st1 rfl rfl sz_3 (.t rfl) .c rfl rfl (.h U0) ⟨.all, ?_⟩
   refine W ?_
   refine At.st1 rfl rfl sz_3 (.t rfl) .c rfl rfl (.h U0) ⟨.all, ?_⟩
   refine Y ?_
   exact fT rfl (.t rfl) (⟨by (rw [hst]; rfl), rfl, by (rw [hst]; rfl)⟩)
  ·
   have hst := Dc.step_1b (r := r) hl1 (by simpa using c2)
   refine Y ?_
   exact fT rfl (.t rfl) (⟨by (rw [hst]; rfl), rfl, by (rw [hst]; rfl)⟩)
 ·
  refine Z ?_
  refine At.condD (.t rfl) (fun c3 => ?_) (fun c3 => ?_)
  ·
   have hl2 : x.line = 2 := (by simpa using c3); have hst := Dc.step_2 (r := r) hl2 
   refine W ?_
   refine At.callVR rfl rfl rfl (.k rfl (.kc .nil)) (.nil) (fun hg => r_Claim) .all ?_
   refine cM rfl rfl rfl (.k rfl (.k rfl (.k rfl .nil))) rfl (.h (.skip (.take (.take .nil)))) .nil (r_Store (r := r) (i := (3 + x.t)) (x := claimD x.seq 1) hn hN hf) keysRa .nil ⟨.all, ?_⟩
   refine W ?_
   refine At.st1 rfl rfl sz_3 (.t rfl) .c rfl rfl (.h U0) ⟨.all, ?_⟩
   refine Y ?_
   exact fT rfl (.t rfl) (⟨by (rw [hst]; rfl), rfl, by (rw [hst]; rfl)⟩)
  ·
   refine Z ?_
   refine At.condD (.t rfl) (fun c4 => ?_) (fun c4 => ?_)
   ·
    have hl3 : x.line = 3 := (by simpa using c4); have hst := Dc.step_3 (r := r) hl3 
    refine W ?_
    refine cM rfl rfl rfl (.k rfl (.kc (.kc .nil))) rfl (.h (.skip (.take (.take .nil)))) .nil (r_Add (r := r) (i := 1) (x := 1) hn hN hf (by have := Rr.peek_mid hw (by decide) (1); omega)) keysRa .nil ⟨.all, ?_⟩
    refine W ?_
    refine At.st1 rfl rfl sz_3 (.t rfl) (.t rfl) rfl rfl (.h U0) ⟨.all, ?_⟩
    refine W ?_
    refine At.st1 rfl rfl sz_3 (.t rfl) .c rfl rfl (.h U0) ⟨.all, ?_⟩
    refine Y ?_
    exact fT rfl (.t rfl) (⟨by (rw [hst]; rfl), rfl, by (rw [hst]; rfl)⟩)
   ·
    refine Z ?_
    refine At.condD (.t rfl) (fun c5 => ?_) (fun c5 => ?_)
    ·
     have hl4 : x.line = 4 := (by simpa using c5); have hst := Dc.step_4 (r := r) hl4 
     refine W ?_
     refine At.drawL ([dcB b x]) [tt 0, tt 1, tt 2, tt 3, tt 4, tt 5, tt 7, tt 8, tt 9, tt 10, tt 11, tt 12, tt 13, tt 14, tt 15] [ff 6, ff 16] [ff 17] (keepOf sl) (by kernel_rfl) (by kernel_rfl) ?_
     refine V ?_
     refine At.stage kI ?_
     refine At.callVR rfl rfl rfl (.k rfl (.kc .nil)) (.nil) (fun hg => r_Claim) kI ?_
     refine At.callVR rfl rfl rfl (.k rfl (.k rfl .nil)) (.nil) (fun hg => r_Claim) kI ?_
     refine At.stage kz ?_
     refine cM rfl rfl rfl (.k rfl (.k rfl (.k rfl (.k rfl .nil)))) rfl (.h (.skip (.take (.take .nil)))) .nil (r_Swap (r := r) (i := (3 + x.t)) (o := claimD x.seq 1) (x := claimD x.seq (x.v + 2)) hn hN hf) keysRa .nil ⟨kz, ?_⟩
     refine W ?_
     refine At.st1 rfl rfl sz_3 (.t rfl) .c rfl rfl (.h U0) ⟨.all, ?_⟩
     refine Y ?_
     exact fT rfl (.t rfl) (⟨by (rw [hst]; rfl), rfl, by (rw [hst]; rfl)⟩)
    ·
     refine Z ?_
     refine At.condD (.t rfl) (fun c6 => ?_) (fun c6 => ?_)
     ·
      have hl5 : x.line = 5 := (by simpa using c6); have hst := Dc.step_5 (r := r) hl5 
      refine W ?_
      refine cM rfl rfl rfl (.k rfl (.k rfl .nil)) rfl (.h (.skip (.take (.take .nil)))) .nil (r_Load (r := r) (i := (3 + x.t)) hn hN hf) keysRa .nil ⟨.all, ?_⟩
      refine At.callVR rfl rfl rfl (.k rfl .nil) (.nil) (fun hg => r_Part) .all ?_
      refine W ?_
      refine At.st1 rfl rfl sz_3 (.t rfl) (.t rfl) rfl rfl (.h U0) ⟨.all, ?_⟩
      refine W ?_
      refine At.st1 rfl rfl sz_3 (.t rfl) .c rfl rfl (.h U0) ⟨.all, ?_⟩
      refine Y ?_
      exact fT rfl (.t rfl) (⟨by (rw [hst]; rfl), rfl, by (rw [hst]; rfl)⟩)
     ·
      have hst := Dc.step_o (r := r) (by simpa using c1) (by simpa using c3) (by simpa using c4) (by simpa using c5) (by simpa using c6)
      refine Z ?_
      exact fT rfl (.t rfl) (⟨by (rw [hst]; done), rfl, by (rw [hst]; done)⟩)
theorem dx_New {a b c d chunk key data : Int} : Fn Tryz.prog 121 [.agg #[.int .i64 a, .int .i64 b, .int .i64 c, .int .i64 d], .int .i64 chunk, .int .i64 key, .int .i64 data] ([]) ([]) (fun v N H => ∃ b1, v = .pointer (some ⟨b1, 0, none⟩) ∧ N = [dxB b1 (⟨a, b, c, d, chunk, key, data, 1, -1, 0, -1⟩ : Dx)] ∧ H = []) := by
 refine Fn.enter Tryz.func121 (by kernel_rfl) rfl (n := 15) rfl rfl (fun w => ?_)
 refine W ?_
 refine At.box rfl rfl rfl (.t rfl) (fun b1 hb1 => ⟨.all, ?_⟩)
 refine W ?_
 refine eA rfl (R.build bt_165 (.k rfl (.k rfl (.k rfl (.k rfl (.kc (.cons .c (.kc .nil))))))) (.cons rfl (.cons rfl (.cons rfl (.cons rfl (.cons rfl (.cons rfl (.cons rfl .nil))))))) rfl) ?_
 refine At.box rfl rfl rfl (.t rfl) (fun b2 hb2 => ⟨.all, ?_⟩)
 refine W ?_
 exact At.final (N' := [dxB b2 (⟨a, b, c, d, chunk, key, data, 1, -1, 0, -1⟩ : Dx)]) rfl (.t rfl) sl (⟨b2, rfl, rfl, rfl⟩)
theorem dx_Step {b ba n : Nat} {wv : Value} {x : Dx} {r : Rr} (hx : x.ok) (hn : r.w.length = n) (hN : n ≤ 1000000) (hf : r.few) (hw : r.mid 1152921504606846976) : Fn Tryz.prog 118 [.pointer (some ⟨b, 0, none⟩), .pointer (some ⟨ba, 0, none⟩)] ([]) ([dxB b x, raB ba wv r, raW wv n r]) (IsM (.bool (decide ((x.step r).1.line = 0))) [dxB b (x.step r).1, raB ba wv (x.step r).2, raW wv n (x.step r).2]) := by
 refine Fn.enter Tryz.func118 (by kernel_rfl) rfl (n := 144) rfl rfl (fun w => ?_)
 have hx0 := hx
 obtain ⟨hx1, hx2, hx3⟩ := hx
 have hpk := Rr.peek_mid hw (by decide) (x.chunk + 7 + 3 * x.i)
 refine W ?_
 refine At.drawK [tt 0, tt 1, tt 2, tt 3, tt 4, tt 5, tt 6, tt 7, ff 8, tt 9] (by kernel_rfl) (by kernel_rfl) ?_
 refine W ?_
 refine At.callVR rfl rfl rfl (.k rfl (.k rfl .nil)) (.nil) (fun hg => r_StateAt (by omega) (by omega)) kI ?_
 refine Z ?_
 refine At.condD (.t rfl) (fun c1 => ?_) (fun c1 => ?_)
 ·
  have hl1 : x.line = 1 := (by simpa using c1)
  refine W ?_
  refine At.st1 rfl rfl sz_3 (.t rfl) .c rfl rfl (.h U0) ⟨.all, ?_⟩
  refine W ?_
  refine cM rfl rfl rfl (.k rfl (.k rfl .nil)) rfl (.h (.skip (.take (.take .nil)))) .nil (r_Load (r := r) (i := x.chunk + 6) hn hN hf) keysRa .nil ⟨.all, ?_⟩
  refine Z ?_
  refine At.condN (.t rfl) (fun c2 => ?_) (fun c2 => ?_)
  ·
   have hst := Dx.step_1a (r := r) hl1 (by simpa using c2)
   refine W ?_
   refine At.st1 rfl rfl sz_3 (.t rfl) .c rfl rfl (.h U0) ⟨.all, ?_⟩
   refine Y ?_
   exact fT rfl (.t rfl) (⟨by (rw [hst]; rfl), rfl, by (rw [hst]; rfl)⟩)
  ·
   have hst := Dx.step_1b (r := r) hl1 (by simpa using c2)
   refine Y ?_
   exact fT rfl (.t rfl) (⟨by (rw [hst]; rfl), rfl, by (rw [hst]; rfl)⟩)
 ·
  refine Z ?_
  refine At.condD (.t rfl) (fun c3 => ?_) (fun c3 => ?_)
  ·
   have hl2 : x.line = 2 := (by simpa using c3)
   refine W ?_
   refine At.st1 rfl rfl sz_3 (.t rfl) .c rfl rfl (.h U0) ⟨.all, ?_⟩
   refine W ?_
   refine cM rfl rfl rfl (.k rfl (.k rfl (.kc .nil))) rfl (.h (.skip (.take (.take .nil)))) .nil (r_Add (r := r) (i := x.chunk + 1) (x := 1) hn hN hf (by have := Rr.peek_mid hw (by decide) (x.chunk + 1); omega)) keysRa .nil ⟨.all, ?_⟩
   refine Z ?_
   refine At.cond (.t rfl) (fun c4 => ?_) (fun c4 => ?_)
   ·
    have hst := Dx.step_2a (r := r) hl2 (by simpa using c4)
    refine W ?_
    refine At.st1 rfl rfl sz_3 (.t rfl) .c rfl rfl (.h U0) ⟨.all, ?_⟩
    refine Y ?_
    exact fT rfl (.t rfl) (⟨by (rw [hst]; rfl), rfl, by (rw [hst]; rfl)⟩)
   ·
    have hst := Dx.step_2b (r := r) hl2 (by simp at c4; omega)
    refine W ?_
    refine At.st1 rfl rfl sz_3 (.t rfl) (.t rfl) rfl rfl (.h U0) ⟨.all, ?_⟩
    refine Y ?_
    exact fT rfl (.t rfl) (⟨by (rw [hst]; rfl), rfl, by (rw [hst]; rfl)⟩)
  ·
   refine Z ?_
   refine At.condD (.t rfl) (fun c5 => ?_) (fun c5 => ?_)
   ·
    have hl3 : x.line = 3 := (by simpa using c5); have hst := Dx.step_3 (r := r) hl3 
    refine W ?_
    refine cM rfl rfl rfl (.k rfl (.k rfl (.k rfl .nil))) rfl (.h (.skip (.take (.take .nil)))) .nil (r_Store (r := r) (i := (x.chunk + 7 + 3 * x.i) + 1) (x := x.key) hn hN hf) keysRa .nil ⟨.all, ?_⟩
    refine W ?_
    refine At.st1 rfl rfl sz_3 (.t rfl) .c rfl rfl (.h U0) ⟨.all, ?_⟩
    refine Y ?_
    exact fT rfl (.t rfl) (⟨by (rw [hst]; rfl), rfl, by (rw [hst]; rfl)⟩)
   ·
    refine Z ?_
    refine At.condD (.t rfl) (fun c6 => ?_) (fun c6 => ?_)
    ·
     have hl4 : x.line = 4 := (by simpa using c6); have hst := Dx.step_4 (r := r) hl4 
     refine W ?_
     refine cM rfl rfl rfl (.k rfl (.k rfl (.k rfl .nil))) rfl (.h (.skip (.take (.take .nil)))) .nil (r_Store (r := r) (i := (x.chunk + 7 + 3 * x.i) + 2) (x := x.data) hn hN hf) keysRa .nil ⟨.all, ?_⟩
     refine W ?_
     refine At.st1 rfl rfl sz_3 (.t rfl) .c rfl rfl (.h U0) ⟨.all, ?_⟩
     refine Y ?_
     exact fT rfl (.t rfl) (⟨by (rw [hst]; rfl), rfl, by (rw [hst]; rfl)⟩)
    ·
     refine Z ?_
     refine At.condD (.t rfl) (fun c7 => ?_) (fun c7 => ?_)
     ·
      have hl5 : x.line = 5 := (by simpa using c7)
      refine W ?_
      refine At.st1 rfl rfl sz_3 (.t rfl) .c rfl rfl (.h U0) ⟨.all, ?_⟩
      refine W ?_
      refine cM rfl rfl rfl (.k rfl (.k rfl (.kc (.kc .nil)))) rfl (.h (.skip (.take (.take .nil)))) .nil (r_Swap (r := r) (i := (x.chunk + 7 + 3 * x.i)) (o := 0) (x := 1) hn hN hf) keysRa .nil ⟨.all, ?_⟩
      refine Z ?_
      refine At.cond (.t rfl) (fun c8 => ?_) (fun c8 => ?_)
      ·
       have hst := Dx.step_5a (r := r) hl5 (by simpa using c8)
       refine W ?_
       refine At.st1 rfl rfl sz_3 (.t rfl) .c rfl rfl (.h U0) ⟨.all, ?_⟩
       refine Y ?_
       exact fT rfl (.t rfl) (⟨by (rw [hst]; rfl), rfl, by (rw [hst]; rfl)⟩)
      ·
       have hst := Dx.step_5b (r := r) hl5 (by simpa using c8)
       refine Y ?_
       exact fT rfl (.t rfl) (⟨by (rw [hst]; rfl), rfl, by (rw [hst]; rfl)⟩)
     ·
      refine Z ?_
      refine At.condD (.t rfl) (fun c9 => ?_) (fun c9 => ?_)
      ·
       have hl6 : x.line = 6 := (by simpa using c9); have hst := Dx.step_6 (r := r) hl6 
       refine W ?_
       refine cM rfl rfl rfl (.k rfl (.kc .nil)) rfl (.h (.skip (.take (.take .nil)))) .nil (r_Load (r := r) (i := 1) hn hN hf) keysRa .nil ⟨.all, ?_⟩
       refine W ?_
       refine At.st1 rfl rfl sz_3 (.t rfl) (.t rfl) rfl rfl (.h U0) ⟨.all, ?_⟩
       refine W ?_
       refine At.st1 rfl rfl sz_3 (.t rfl) .c rfl rfl (.h U0) ⟨.all, ?_⟩
       refine Y ?_
       exact fT rfl (.t rfl) (⟨by (rw [hst]; rfl), rfl, by (rw [hst]; rfl)⟩)
      ·
       refine Z ?_
       refine At.condD (.t rfl) (fun c10 => ?_) (fun c10 => ?_)
       ·
        have hl7 : x.line = 7 := (by simpa using c10); have hst := Dx.step_7 (r := r) hl7 
        refine W ?_
        refine At.callVR rfl rfl rfl (.k rfl .nil) (.nil) (fun hg => r_State) .all ?_
        refine cM rfl rfl rfl (.k rfl (.k rfl (.kc (.k rfl .nil)))) rfl (.h (.skip (.take (.take .nil)))) .nil (r_Swap (r := r) (i := (x.chunk + 7 + 3 * x.i)) (o := 1) (x := min (max x.g 0) 16777212 + 3) hn hN hf) keysRa .nil ⟨.all, ?_⟩
        refine W ?_
        refine At.st1 rfl rfl sz_3 (.t rfl) .c rfl rfl (.h U0) ⟨.all, ?_⟩
        refine Y ?_
        exact fT rfl (.t rfl) (⟨by (rw [hst]; rfl), rfl, by (rw [hst]; rfl)⟩)
       ·
        refine Z ?_
        refine At.condD (.t rfl) (fun c11 => ?_) (fun c11 => ?_)
        ·
         have hl8 : x.line = 8 := (by simpa using c11); have hst := Dx.step_8 (r := r) hl8 
         refine W ?_
         refine cM rfl rfl rfl (.k rfl (.k rfl .nil)) rfl (.h (.skip (.take (.take .nil)))) .nil (r_Load (r := r) (i := (x.chunk + 7 + 3 * x.i)) hn hN hf) keysRa .nil ⟨.all, ?_⟩
         refine At.callVR rfl rfl rfl (.k rfl .nil) (.nil) (fun hg => r_Version (by omega)) .all ?_
         refine W ?_
         refine At.st1 rfl rfl sz_3 (.t rfl) (.t rfl) rfl rfl (.h U0) ⟨.all, ?_⟩
         refine W ?_
         refine At.st1 rfl rfl sz_3 (.t rfl) .c rfl rfl (.h U0) ⟨.all, ?_⟩
         refine Y ?_
         exact fT rfl (.t rfl) (⟨by (rw [hst]; rfl), rfl, by (rw [hst]; rfl)⟩)
        ·
         have hst := Dx.step_o (r := r) (by simpa using c1) (by simpa using c3) (by simpa using c5) (by simpa using c6) (by simpa using c7) (by simpa using c9) (by simpa using c10) (by simpa using c11)
         refine Z ?_
         exact fT rfl (.t rfl) (⟨by (rw [hst]; done), rfl, by (rw [hst]; done)⟩)
end Go.Proofs.YtbolanigdkgbdaaGreat
namespace Go.Proofs.YtbolanigdkgbdaaGreat
open Go Go.RowKit
set_option maxRecDepth 10000
set_option linter.unusedVariables false
set_option maxHeartbeats 1000000
theorem bt_63 : buildTab Tryz.prog 63 = some (#[.int .i64 0, .int .i64 0, .int .i64 0, .int .i64 0, .int .i64 0, .int .i64 0, .int .i64 0, .int .i64 0, .int .i64 0, .int .i64 0, .int .i64 0, .int .i64 0, .int .i64 0, .int .i64 0, .slice none 0 0], [(0, 4), (4, 1), (5, 1), (6, 1), (7, 1), (8, 1), (9, 1), (10, 1), (11, 1), (12, 1), (13, 1), (14, 1)]) := by kernel_rfl
theorem fo_63_11 : fieldOff? Tryz.prog 63 11 = some 14 := by kernel_rfl
theorem fo_63_4 : fieldOff? Tryz.prog 63 4 = some 7 := by kernel_rfl
theorem fo_63_5 : fieldOff? Tryz.prog 63 5 = some 8 := by kernel_rfl
theorem fo_63_6 : fieldOff? Tryz.prog 63 6 = some 9 := by kernel_rfl
theorem fo_63_7 : fieldOff? Tryz.prog 63 7 = some 10 := by kernel_rfl
theorem fo_63_8 : fieldOff? Tryz.prog 63 8 = some 11 := by kernel_rfl
theorem fo_63_9 : fieldOff? Tryz.prog 63 9 = some 12 := by kernel_rfl
structure Dl where
  th : Int
  cap : Int
  wd : Int
  ver : Int
  chunk : Int
  lo : Int
  hi : Int
  most : Int
  line : Int
  i : Int
  count : Int
  s : Int
  k : Int
  g : Int
  l : List Itm
abbrev dlC (Lv : Value) (x : Dl) : Array Value := #[.int .i64 x.th, .int .i64 x.cap, .int .i64 x.wd, .int .i64 x.ver, .int .i64 x.chunk, .int .i64 x.lo, .int .i64 x.hi, .int .i64 x.most, .int .i64 x.line, .int .i64 x.i, .int .i64 x.count, .int .i64 x.s, .int .i64 x.k, .int .i64 x.g, Lv]
abbrev dlB (b : Nat) (Lv : Value) (x : Dl) : Ent := .blk b (.cells (dlC Lv x) 63)
def itD (l : List Itm) (key : Int) : Int := match l.findIdx? (fun y => decide (y.key = key)) with
  | some i => i
  | none => -1
theorem itD_yes {l : List Itm} {key : Int} {i : Nat} (h : i < l.length) (h1 : (gE l (i : Int)).key = key) (h2 : ∀ j : Nat, j < i → (gE l (j : Int)).key ≠ key) : itD l key = i := by
  unfold itD
  have : l.findIdx? (fun y => decide (y.key = key)) = some i := by
    rw [List.findIdx?_eq_some_iff_getElem]
    refine ⟨h, by simpa [gE, h] using h1, fun j hj => ?_⟩
    have := h2 j hj
    simpa [gE, show j < l.length by omega] using this
  rw [this]
theorem itD_no {l : List Itm} {key : Int} {i : Nat} (h : l.length ≤ i) (h2 : ∀ j : Nat, j < i → (gE l (j : Int)).key ≠ key) : itD l key = -1 := by
  unfold itD
  have : l.findIdx? (fun y => decide (y.key = key)) = none := by
    rw [List.findIdx?_eq_none_iff]
    intro y hy
    obtain ⟨j, hj, rfl⟩ := List.getElem_of_mem hy
    have := h2 j (by omega)
    simpa [gE, hj] using this
  rw [this]
theorem itD_lt (l : List Itm) (key : Int) : -1 ≤ itD l key ∧ itD l key < l.length := by
  unfold itD
  cases h : l.findIdx? (fun y => decide (y.key = key)) with
  | none => simp; omega
  | some i =>
    have := (List.findIdx?_eq_some_iff_getElem.1 h).1
    simp; omega
def Dl.next (x : Dl) : Dl := if x.count ≤ x.i + 1 then ⟨x.th, x.cap, x.wd, x.ver, x.chunk, x.lo, x.hi, x.most, 0, x.i + 1, x.count, x.s, x.k, x.g, x.l⟩ else ⟨x.th, x.cap, x.wd, x.ver, x.chunk, x.lo, x.hi, x.most, 2, x.i + 1, x.count, x.s, x.k, x.g, x.l⟩
def Dl.past (x : Dl) : Prop := x.most < verD x.s ∨ 0 ≤ itD x.l x.k ∧ verD x.s < (gE x.l (itD x.l x.k)).ver
instance (x : Dl) : Decidable x.past := by unfold Dl.past; infer_instance
def Dl.seven (x : Dl) : Dl := if x.past then Dl.next ⟨x.th, x.cap, x.wd, x.ver, x.chunk, x.lo, x.hi, x.most, 7, x.i, x.count, x.s, x.k, x.g, x.l⟩ else ⟨x.th, x.cap, x.wd, x.ver, x.chunk, x.lo, x.hi, x.most, 7, x.i, x.count, x.s, x.k, x.g, x.l⟩
def posD (l : List Itm) (key : Int) : Nat := (l.takeWhile fun y => decide (y.key < key)).length
def putD (l : List Itm) (y : Itm) : List Itm := if 0 ≤ itD l y.key then l.set (itD l y.key).toNat y else l.take (posD l y.key) ++ [y] ++ l.drop (posD l y.key)
theorem putD_set {l : List Itm} {y : Itm} (h : 0 ≤ itD l y.key) : l.set (itD l y.key).toNat y = putD l y := by unfold putD; rw [if_pos h]
theorem row_set {l : List Itm} {y : Itm} {v : Value} {E : TypeId} (h : 0 ≤ itD l y.key) : Ent.row v E iK.sz l.length (iK.all (l.set (itD l y.key).toNat y)) = rowE iK E v (putD l y) := by rw [rowE, ← putD_set h, List.length_set]
theorem putD_ins {l : List Itm} {y : Itm} {k : Nat} (h : ¬ 0 ≤ itD l y.key) (hk : posD l y.key = k) : (([] ++ (l.drop 0).take (k - 0)) ++ [y]) ++ (l.drop k).take (l.length - k) = putD l y := by
  unfold putD; rw [if_neg h, hk]
  simp
  exact List.take_of_length_le (by simp)
theorem posD_of {l : List Itm} {key : Int} {k : Nat} (h1 : k ≤ l.length) (h2 : ∀ j : Nat, j < k → (gE l (j : Int)).key < key) (h3 : (decide ((k : Int) < (l.length : Int)) && decide ((gE l (k : Int)).key < key)) = false) : posD l key = k := by
  unfold posD
  induction l generalizing k with
  | nil => simp at h1; simp [h1]
  | cons x r ih =>
    rw [List.takeWhile_cons]
    cases k with
    | zero =>
      simp [gE] at h3
      simp [show ¬ x.key < key by omega]
    | succ k =>
      have h0 := h2 0 (by omega)
      simp [gE] at h0
      simp [h0]
      refine ih (by simpa using h1) (fun j hj => ?_) ?_
      · have := h2 (j + 1) (by omega); simpa [gE] using this
      · simpa [gE] using h3
theorem dl_New {a b c d chunk lo hi most : Int} : Fn Tryz.prog 26 [.agg #[.int .i64 a, .int .i64 b, .int .i64 c, .int .i64 d], .int .i64 chunk, .int .i64 lo, .int .i64 hi, .int .i64 most] ([]) ([]) (fun v N H => ∃ b1, v = .pointer (some ⟨b1, 0, none⟩) ∧ N = [dlB b1 (.slice none 0 0) (⟨a, b, c, d, chunk, lo, hi, most, 1, 0, 0, 0, 0, 0, []⟩ : Dl), rowE iK 43 (.slice none 0 0) []] ∧ H = []) := by
 refine Fn.enter Tryz.func26 (by kernel_rfl) rfl (n := 18) rfl rfl (fun w => ?_)
 refine W ?_
 refine At.box rfl rfl rfl (.t rfl) (fun b1 hb1 => ⟨.all, ?_⟩)
 refine W ?_
 refine eA rfl (R.build bt_63 (.k rfl (.k rfl (.k rfl (.k rfl (.k rfl (.kc .nil)))))) (.cons rfl (.cons rfl (.cons rfl (.cons rfl (.cons rfl (.cons rfl .nil)))))) rfl) ?_
 refine At.box rfl rfl rfl (.t rfl) (fun b2 hb2 => ⟨.all, ?_⟩)
 refine W ?_
 refine At.nilRow iK 43 ?_
 refine At.perm (List.Perm.swap _ _ _) ?_
 exact At.final (N' := [dlB b2 (.slice none 0 0) (⟨a, b, c, d, chunk, lo, hi, most, 1, 0, 0, 0, 0, 0, []⟩ : Dl), rowE iK 43 (.slice none 0 0) []]) rfl (.t rfl) sl (⟨b2, rfl, rfl, rfl⟩)
theorem dl_next {b : Nat} {Lv : Value} {x : Dl} (hx : -1 ≤ x.i ∧ x.i ≤ 100000) : Fn Tryz.prog 62 [.pointer (some ⟨b, 0, none⟩)] ([]) ([dlB b Lv x]) (IsM (.tuple #[]) [dlB b Lv x.next]) := by
 refine Fn.enter Tryz.func62 (by kernel_rfl) rfl (n := 25) rfl rfl (fun w => ?_)
 refine W ?_
 refine At.st1 rfl rfl sz_3 (.t rfl) (.t rfl) rfl rfl (.h U0) ⟨.all, ?_⟩
 refine W ?_
 refine At.st1 rfl rfl sz_3 (.t rfl) .c rfl rfl (.h U0) ⟨.all, ?_⟩
 refine W ?_
 refine At.drawK [tt 0, tt 1, tt 2, tt 3, tt 4, tt 5, tt 6, tt 7, tt 8] (by kernel_rfl) (by kernel_rfl) ?_
 refine Z ?_
 refine At.condD (.t rfl) (fun c1 => ?_) (fun c1 => ?_)
 ·
  refine W ?_
  refine At.st1 rfl rfl sz_3 (.t rfl) .c rfl rfl (.h U0) ⟨.all, ?_⟩
  refine W ?_
  exact At.final0 rfl (List.nil_sublist _) (⟨rfl, rfl, by unfold Dl.next; (rw [if_pos (by simpa using c1)]; rfl)⟩) _ (.inr rfl)
 ·
  refine W ?_
  exact At.final0 rfl (List.nil_sublist _) (⟨rfl, rfl, by unfold Dl.next; (rw [if_neg (by simpa using c1)]; rfl)⟩) _ (.inr rfl)
theorem dl_item {b : Nat} {Lv : Value} {x : Dl} {key : Int} (hL : x.l.length ≤ 1000000) : Fn Tryz.prog 91 [.pointer (some ⟨b, 0, none⟩), .int .i64 key] ([dlB b Lv x, rdE iK Lv x.l]) ([]) (IsV (.int .i64 (itD x.l key))) := by
 refine Fn.enter Tryz.func91 (by kernel_rfl) rfl (n := 26) rfl rfl (fun w => ?_)
 refine W ?_
 refine At.loop1 (fun (i : Nat) => i ≤ x.l.length ∧ ∀ j : Nat, j < i → (gE x.l (j : Int)).key ≠ key) (fun (i : Nat) => x.l.length - i) (fun (i : Nat) => [(0, true, .pointer (some ⟨b, 0, none⟩)), (1, true, .int .i64 key), (5, true, .int .i64 i)]) (fun (i : Nat) => []) (fun (i : Nat) => []) (0) ⟨Nat.zero_le _, fun j hj => absurd hj (Nat.not_lt_zero _)⟩ (.cons rfl (.cons rfl (.cons rfl .nil))) (List.Sublist.refl _) rfl (fun i hi => ?_)
 obtain ⟨hi1, hi2⟩ := hi
 refine Z ?_
 refine At.condD (.t rfl) (fun c1 => ?_) (fun c1 => ?_)
 ·
  refine Z ?_
  refine At.condD (.t rfl) (fun c2 => ?_) (fun c2 => ?_)
  ·
   refine W ?_
   exact fT rfl (.t rfl) (⟨congrArg (Value.int .i64) (by exact (itD_yes (by omega) c2 hi2).symm), rfl, rfl⟩)
  ·
   refine W ?_
   exact At.again1 (i + 1) ⟨by omega, fun j hj => (by rcases Nat.lt_succ_iff_lt_or_eq.1 hj with h | h; exact hi2 j h; subst h; exact c2)⟩ (by omega) (.cons rfl (.cons rfl (.cons rfl .nil))) (List.Sublist.refl _) rfl
 ·
  refine W ?_
  exact fT rfl (.t rfl) (⟨congrArg (Value.int .i64) (by exact (itD_no (by omega) hi2).symm), rfl, rfl⟩)
theorem dl_seven {b : Nat} {Lv : Value} {x : Dl} (hx : -1 ≤ x.i ∧ x.i ≤ 100000) (hs : -2305843009213693952 ≤ x.s ∧ x.s ≤ 2305843009213693952) (hL : x.l.length ≤ 1000000) : Fn Tryz.prog 63 [.pointer (some ⟨b, 0, none⟩)] ([rdE iK Lv x.l]) ([dlB b Lv x]) (IsM (.tuple #[]) [dlB b Lv x.seven]) := by
 refine Fn.enter Tryz.func63 (by kernel_rfl) rfl (n := 42) rfl rfl (fun w => ?_)
 have hit := itD_lt x.l x.k
 refine W ?_
 refine At.callVR rfl rfl rfl (.k rfl .nil) (.nil) (fun hg => r_Version (by omega)) .all ?_
 refine W ?_
 refine At.callVR rfl rfl rfl (.k rfl (.k rfl .nil)) (.blk (.st M1) (.cons (rS M0) .nil)) (fun hg => dl_item (x := x) (key := x.k) hL) .all ?_
 refine W ?_
 refine At.st1 rfl rfl sz_3 (.t rfl) .c rfl rfl (.h U0) ⟨.all, ?_⟩
 refine U ?_
 refine eA rfl (R.gtr (.t rfl) (.t rfl)) ?_
 refine U ?_
 refine eA rfl (R.geq (.s rfl) .c) ?_
 refine U ?_
 refine eA rfl (R.indexRd Tryz.underlying40 sz_43 (.s rfl) (rS M0) (.s rfl) (fun hg => (by ((simp [-List.length_eq_zero_iff] at hg; omega))))) ?_
 refine eA rfl (R.fieldRd fo_43_1 (.s rfl) (rS M0) (fun hg => (by ((simp [-List.length_eq_zero_iff] at hg; omega))))) ?_
 refine eA rfl (R.loadRd Tryz.underlying3 rfl (.s rfl) (rS M0) (fun hg => by exact Ek.getN rfl (by ((simp [-List.length_eq_zero_iff] at hg; omega))))) ?_
 refine eA rfl (R.lss (.s rfl) (.s rfl)) ?_
 refine eA rfl (R.pickAnd (.s rfl) rfl (by (intro hg h; rw [hg, h]; rfl))) ?_
 refine eA rfl (R.pickOr (.t rfl) rfl (by (intro hg h; rw [h]; rfl))) ?_
 refine U ?_
 refine At.cond (.t rfl) (fun c1 => ?_) (fun c1 => ?_)
 ·
  have hp : x.past := (by unfold Dl.past; simp at c1; omega)
  refine W ?_
  refine cM rfl rfl rfl (.k rfl .nil) rfl (.h (.take .nil)) .nil (dl_next (x := (⟨x.th, x.cap, x.wd, x.ver, x.chunk, x.lo, x.hi, x.most, 7, x.i, x.count, x.s, x.k, x.g, x.l⟩ : Dl)) hx) rfl .nil ⟨.all, ?_⟩
  refine W ?_
  exact At.final0 rfl (List.nil_sublist _) (⟨rfl, rfl, by unfold Dl.seven; (rw [if_pos hp]; done)⟩) _ (.inr rfl)
 ·
  have hp : ¬ x.past := (by unfold Dl.past; simp at c1; omega)
  refine W ?_
  exact At.final0 rfl (List.nil_sublist _) (⟨rfl, rfl, by unfold Dl.seven; (rw [if_neg hp]; rfl)⟩) _ (.inr rfl)
theorem dl_put {b : Nat} {Lv : Value} {x : Dl} {y : Itm} (hL : x.l.length ≤ 100000) : FnX Tryz.prog 65 [.pointer (some ⟨b, 0, none⟩), .agg #[.int .i64 y.key, .int .i64 y.ver, .int .i64 y.data]] ([]) ([dlB b Lv x, rowE iK 43 Lv x.l]) (fun v N => ∃ Lv2, v = .tuple #[] ∧ N = [rowE iK 43 Lv2 (putD x.l y), dlB b Lv2 x]) := by
 refine FnX.enter Tryz.func65 (by kernel_rfl) rfl (n := 69) rfl rfl (fun w df hds how => ?_)
 have hit := itD_lt x.l y.key
 refine W ?_
 refine At.box rfl rfl rfl (.t rfl) (fun b1 hb1 => ⟨.all, ?_⟩)
 refine W ?_
 refine At.callVR rfl rfl rfl (.k rfl (.k rfl .nil)) (.blk (.st M1) (.cons (wS M2) .nil)) (fun hg => dl_item (x := x) (key := y.key) (by omega)) .all ?_
 refine Z ?_
 refine At.condD (.t rfl) (fun c1 => ?_) (fun c1 => ?_)
 ·
  refine W ?_
  (refine At.nilRow iK 43 ?_; refine At.app (k := iK) rfl rfl rfl Tryz.underlying40 et_43 .c (.t rfl) (fun _ => by (exact U0)) (wS M3) (by (simp <;> omega)) (fun v1 => ⟨.all, ?_⟩))
  refine W ?_
  refine At.rowOne (v := v1) (M0) (fun h1v => ?_)
  refine At.st1 rfl rfl sz_40 (.t rfl) (.t rfl) h1v rfl (.n U2) ⟨.all, ?_⟩
  refine W ?_
  refine At.reRow (v := v1) (xs' := x.l) .here (List.nil_append _) ?_
  have hpos : 0 < x.l.length := (by omega)
  refine At.rowForm (v := v1) (.head _) hpos (fun gx capx hvx => ?_)
  subst hvx
  refine At.drawL ([]) [tt 0, tt 1, tt 2, tt 4] [tt 3, tt 5, tt 6] [ff 7] (fun _ h => nomatch h) (by kernel_rfl) (by kernel_rfl) ?_
  refine V ?_
  refine At.stage kI ?_
  refine V ?_
  refine At.stage Cl.none ?_
  refine At.stRow (k := iK) (y := y) rfl rfl sz_43 (.t rfl) (.t rfl) rfl (.n U0) (by omega) (by omega) ⟨Cl.none, ?_⟩
  refine W ?_
  refine At.re (congrArg (fun z => z :: _) (row_set c1)) ?_
  exact At.finalX0 (N' := [rowE iK 43 _ (putD x.l y), dlB b _ x]) hds how rfl sl (⟨_, rfl, rfl⟩) _ (.inl rfl)
 ·
  refine W ?_
  refine At.loop1 (fun (k : Nat) => k ≤ x.l.length ∧ ∀ j : Nat, j < k → (gE x.l (j : Int)).key < y.key) (fun (k : Nat) => x.l.length - k) (fun (k : Nat) => [(0, true, .pointer (some ⟨b, 0, none⟩)), (3, true, .pointer (some ⟨b1, 0, none⟩)), (5, true, .int .i64 k)]) (fun (k : Nat) => [.blk b1 (.cells (iK.enc y).toArray 43), dlB b Lv x, rowE iK 43 Lv x.l]) (fun (k : Nat) => []) (0) ⟨Nat.zero_le _, fun j hj => absurd hj (Nat.not_lt_zero _)⟩ (.cons rfl (.cons rfl (.cons rfl .nil))) (List.Sublist.refl _) rfl (fun k hi => ?_)
  obtain ⟨hk1, hk2⟩ := hi
  refine W ?_
  refine At.drawK [tt 0, tt 1, tt 2, tt 3, tt 4, tt 5, tt 6, tt 7, tt 8, tt 9, tt 10, tt 11, tt 12, tt 13, tt 14, tt 15, tt 16, tt 17, tt 18, tt 19] (by kernel_rfl) (by kernel_rfl) ?_
  refine U ?_
  refine sJ rfl (R.lenRd Tryz.underlying40 (.t rfl) (wK M2)) ?_
  refine sJ rfl (R.lss (.t rfl) (.t rfl)) ?_
  refine U ?_
  refine sJ rfl (R.indexRd Tryz.underlying40 sz_43 (.s rfl) (wK M2) (.s rfl) (fun hg => (by ((simp [-List.length_eq_zero_iff] at hg; omega))))) ?_
  refine sJ rfl (R.fieldRd fo_43_0 (.s rfl) (wK M2) (fun hg => (by ((simp [-List.length_eq_zero_iff] at hg; omega))))) ?_
  refine sJ rfl (R.loadRd Tryz.underlying3 rfl (.s rfl) (wK M2) (fun hg => by exact Ek.getN rfl (by ((simp [-List.length_eq_zero_iff] at hg; omega))))) ?_
  refine U ?_
  refine sJ rfl (R.lss (.s rfl) (.s rfl)) ?_
  refine sJ rfl (R.pickAnd (.t rfl) rfl (by (intro hg h; rw [h]; rfl))) ?_
  refine U ?_
  refine At.cond (.t rfl) (fun c2 => ?_) (fun c2 => ?_)
  ·
   refine W ?_
   exact At.again1 (k + 1) ⟨by simp at c2; omega, fun j hj => (by simp at c2; rcases Nat.lt_succ_iff_lt_or_eq.1 hj with h | h; exact hk2 j h; subst h; exact c2.2)⟩ (by simp at c2; omega) (.cons rfl (.cons rfl (.cons rfl .nil))) (List.Sublist.refl _) rfl
  ·
   refine W ?_
   let F52 : Value → Value → Value → Value → Fr := fun va vl vb vc => [(49, pt b 0), (50, pt b 0), (52, pt b 14), (54, iv (k : Int)), (55, true, cutV Lv 3 0 k), (56, true, va), (57, true, .agg (iK.enc y).toArray), (58, true, vl), (59, true, vb), (60, pt b 0), (62, pt b 14), (64, iv (k : Int)), (65, true, cutV Lv 3 k x.l.length), (66, true, vc), (68, pt b 14), (0, pt b 0)]
   refine At.dag [tt 0, tt 1, tt 2, tt 3, tt 5, tt 8, tt 11, tt 12, tt 13, tt 15] 11 (mT 21 [0, 1, 2, 3, 5, 8, 11, 12, 13, 15]) ([.blk b1 (.cells (iK.enc y).toArray 43), rowE iK 43 Lv x.l]) (keepOf sl) (by kernel_rfl) (by kernel_rfl) (fun G hnode hdone => ?_)
   have g0 : ∀ (va vl vb vc : Value), At w 69 [] (fs (F52 va vl vb vc) 65535) ([rowE iK 43 vc (((([] ++ (x.l.drop 0).take (k - 0)) ++ [y]) ++ (x.l.drop k).take (x.l.length - k))), .blk b1 (.cells (iK.enc y).toArray 43), dlB b vc x, rowE iK 43 Lv x.l]) ([]) (G 0 (mF 21 [])) := fun va vl vb vc => by
    refine hdone _ _ _ (by kernel_rfl) ?_
    refine At.reRow (xs' := putD x.l y) .here (putD_ins c1 (posD_of hk1 hk2 c2)) ?_
    exact At.finalX0 (N' := [rowE iK 43 vc (putD x.l y), dlB b vc x]) hds how rfl sl (⟨_, rfl, rfl⟩) _ (.inr rfl)
   have g1 : ∀ (va vl vb vc : Value), At w 69 [] (fs (F52 va vl vb vc) 65535) ([rowE iK 43 vc (((([] ++ (x.l.drop 0).take (k - 0)) ++ [y]) ++ (x.l.drop k).take (x.l.length - k))), .blk b1 (.cells (iK.enc y).toArray 43), dlB b Lv x, rowE iK 43 Lv x.l]) ([]) (G 1 (mF 21 [20])) := fun va vl vb vc => by
    refine hnode _ _ _ _ [(20, [], 0, (mF 21 []))] (by kernel_rfl) kz ?_
    ·
     refine At.rowOne (v := vc) (M0) (fun h1v => ?_)
     refine At.st1 rfl rfl sz_40 (.t rfl) (.t rfl) h1v rfl (.n U2) ⟨kz, ?_⟩
     refine W ?_
     exact wk (g0 va vl vb vc)
   have g2 : ∀ (va vl vb : Value), At w 69 [] (fs (F52 va vl vb .nilFunc) 40959) ([rowE iK 43 vb ((([] ++ (x.l.drop 0).take (k - 0)) ++ [y])), .blk b1 (.cells (iK.enc y).toArray 43), dlB b Lv x, rowE iK 43 Lv x.l]) ([]) (G 4 (mF 21 [17, 18, 19, 20])) := fun va vl vb => by
    refine hnode _ _ _ _ [(17, [tt 18, tt 19], 1, (mF 21 [20]))] (by kernel_rfl) kz ?_
    ·
     refine At.app (k := iK) rfl rfl rfl Tryz.underlying40 et_43 (.t rfl) (.t rfl) (fun _ => by (exact U0)) (RdIn.cutE (k := iK) (wS M3) _ _ (by omega) (by omega)) (by (simp <;> omega)) (fun v2 => ⟨kz, ?_⟩)
     refine W ?_
     exact wk (g1 va vl vb v2)
   have g3 : ∀ (va vl : Value), At w 69 [] (fs (F52 va vl .nilFunc .nilFunc) 40703) ([rowE iK 43 vl ([y]), rowE iK 43 va (([] ++ (x.l.drop 0).take (k - 0))), .blk b1 (.cells (iK.enc y).toArray 43), dlB b Lv x, rowE iK 43 Lv x.l]) ([]) (G 5 (mF 21 [10, 17, 18, 19, 20])) := fun va vl => by
    refine hnode _ _ _ _ [(10, [], 4, (mF 21 [17, 18, 19, 20]))] (by kernel_rfl) kz ?_
    ·
     refine At.app (k := iK) rfl rfl rfl Tryz.underlying40 et_43 (.t rfl) (.t rfl) (fun _ => by (exact U1)) (wS M0) (by (simp <;> omega)) (fun v2 => ⟨kz, ?_⟩)
     refine W ?_
     exact wk (g2 va vl v2)
   have g4 : ∀ (va vl vb : Value), At w 69 [] (fs (F52 va vl vb .nilFunc) 36863) ([rowE iK 43 vb ((([] ++ (x.l.drop 0).take (k - 0)) ++ [y])), .blk b1 (.cells (iK.enc y).toArray 43), dlB b Lv x, rowE iK 43 Lv x.l]) ([]) (G 6 (mF 21 [14, 16, 17, 18, 19, 20])) := fun va vl vb => by
    refine hnode _ _ _ _ [(14, [tt 16], 4, (mF 21 [17, 18, 19, 20]))] (by kernel_rfl) kz ?_
    ·
     refine WD ?_
     refine sC rfl kz (R.sliceRd Tryz.underlying40 sz_43 (.t rfl) (wK M1) (.t rfl) rfl gO) ?_
     refine W ?_
     exact wk (g2 va vl vb)
   have g5 : ∀ (va : Value), At w 69 [] (fs (F52 va .nilFunc .nilFunc .nilFunc) 40575) ([rowE iK 43 va (([] ++ (x.l.drop 0).take (k - 0))), .blk b1 (.cells (iK.enc y).toArray 43), dlB b Lv x, rowE iK 43 Lv x.l]) ([]) (G 6 (mF 21 [9, 10, 17, 18, 19, 20])) := fun va => by
    refine hnode _ _ _ _ [(9, [], 5, (mF 21 [10, 17, 18, 19, 20]))] (by kernel_rfl) kz ?_
    ·
     refine At.lit (k := iK) rfl rfl rfl Tryz.underlying40 et_43 (.k rfl .nil) (.cons rfl .nil) rfl rfl rfl (fun v2 => ⟨kz, ?_⟩)
     refine W ?_
     exact wk (g3 va v2)
   have g6 : ∀ (vl : Value), At w 69 [] (fs (F52 .nilFunc vl .nilFunc .nilFunc) 40671) ([rowE iK 43 vl ([y]), .blk b1 (.cells (iK.enc y).toArray 43), dlB b Lv x, rowE iK 43 Lv x.l]) ([]) (G 6 (mF 21 [7, 10, 17, 18, 19, 20])) := fun vl => by
    refine hnode _ _ _ _ [(7, [], 5, (mF 21 [10, 17, 18, 19, 20]))] (by kernel_rfl) kz ?_
    ·
     (refine At.nilRow iK 43 ?_; refine At.app (k := iK) rfl rfl rfl Tryz.underlying40 et_43 .c (.t rfl) (fun _ => by (exact U0)) (RdIn.cutE (k := iK) (wS M4) _ _ (by omega) (by omega)) (by (simp <;> omega)) (fun v2 => ⟨kz, ?_⟩))
     refine W ?_
     refine At.perm (List.Perm.swap _ _ _) ?_
     exact wk (g3 v2 vl)
   have g7 : ∀ (va vl : Value), At w 69 [] (fs (F52 va vl .nilFunc .nilFunc) 36607) ([rowE iK 43 vl ([y]), rowE iK 43 va (([] ++ (x.l.drop 0).take (k - 0))), .blk b1 (.cells (iK.enc y).toArray 43), dlB b Lv x, rowE iK 43 Lv x.l]) ([]) (G 7 (mF 21 [10, 14, 16, 17, 18, 19, 20])) := fun va vl => by
    refine hnode _ _ _ _ [(10, [], 6, (mF 21 [14, 16, 17, 18, 19, 20])), (14, [tt 16], 5, (mF 21 [10, 17, 18, 19, 20]))] (by kernel_rfl) kz ?_
    refine ⟨?_, ?_⟩
    ·
     refine At.app (k := iK) rfl rfl rfl Tryz.underlying40 et_43 (.t rfl) (.t rfl) (fun _ => by (exact U1)) (wS M0) (by (simp <;> omega)) (fun v2 => ⟨kz, ?_⟩)
     refine W ?_
     exact wk (g4 va vl v2)
    ·
     refine WD ?_
     refine sC rfl kz (R.sliceRd Tryz.underlying40 sz_43 (.t rfl) (wK M1) (.t rfl) rfl gO) ?_
     refine W ?_
     exact wk (g3 va vl)
   have g8 : ∀ (_ : True), At w 69 [] (fs (F52 .nilFunc .nilFunc .nilFunc .nilFunc) 40543) ([.blk b1 (.cells (iK.enc y).toArray 43), dlB b Lv x, rowE iK 43 Lv x.l]) ([]) (G 7 (mF 21 [7, 9, 10, 17, 18, 19, 20])) := fun _ => by
    refine hnode _ _ _ _ [(7, [], 6, (mF 21 [9, 10, 17, 18, 19, 20])), (9, [], 6, (mF 21 [7, 10, 17, 18, 19, 20]))] (by kernel_rfl) kz ?_
    refine ⟨?_, ?_⟩
    ·
     (refine At.nilRow iK 43 ?_; refine At.app (k := iK) rfl rfl rfl Tryz.underlying40 et_43 .c (.t rfl) (fun _ => by (exact U0)) (RdIn.cutE (k := iK) (wS M3) _ _ (by omega) (by omega)) (by (simp <;> omega)) (fun v2 => ⟨kz, ?_⟩))
     refine W ?_
     exact wk (g5 v2)
    ·
     refine At.lit (k := iK) rfl rfl rfl Tryz.underlying40 et_43 (.k rfl .nil) (.cons rfl .nil) rfl rfl rfl (fun v2 => ⟨kz, ?_⟩)
     refine W ?_
     exact wk (g6 v2)
   have g9 : ∀ (va : Value), At w 69 [] (fs (F52 va .nilFunc .nilFunc .nilFunc) 36479) ([rowE iK 43 va (([] ++ (x.l.drop 0).take (k - 0))), .blk b1 (.cells (iK.enc y).toArray 43), dlB b Lv x, rowE iK 43 Lv x.l]) ([]) (G 8 (mF 21 [9, 10, 14, 16, 17, 18, 19, 20])) := fun va => by
    refine hnode _ _ _ _ [(9, [], 7, (mF 21 [10, 14, 16, 17, 18, 19, 20])), (14, [tt 16], 6, (mF 21 [9, 10, 17, 18, 19, 20]))] (by kernel_rfl) kz ?_
    refine ⟨?_, ?_⟩
    ·
     refine At.lit (k := iK) rfl rfl rfl Tryz.underlying40 et_43 (.k rfl .nil) (.cons rfl .nil) rfl rfl rfl (fun v2 => ⟨kz, ?_⟩)
     refine W ?_
     exact wk (g7 va v2)
    ·
     refine WD ?_
     refine sC rfl kz (R.sliceRd Tryz.underlying40 sz_43 (.t rfl) (wK M1) (.t rfl) rfl gO) ?_
     refine W ?_
     exact wk (g5 va)
   have g10 : ∀ (vl : Value), At w 69 [] (fs (F52 .nilFunc vl .nilFunc .nilFunc) 36575) ([rowE iK 43 vl ([y]), .blk b1 (.cells (iK.enc y).toArray 43), dlB b Lv x, rowE iK 43 Lv x.l]) ([]) (G 8 (mF 21 [7, 10, 14, 16, 17, 18, 19, 20])) := fun vl => by
    refine hnode _ _ _ _ [(7, [], 7, (mF 21 [10, 14, 16, 17, 18, 19, 20])), (14, [tt 16], 6, (mF 21 [7, 10, 17, 18, 19, 20]))] (by kernel_rfl) kz ?_
    refine ⟨?_, ?_⟩
    ·
     (refine At.nilRow iK 43 ?_; refine At.app (k := iK) rfl rfl rfl Tryz.underlying40 et_43 .c (.t rfl) (fun _ => by (exact U0)) (RdIn.cutE (k := iK) (wS M4) _ _ (by omega) (by omega)) (by (simp <;> omega)) (fun v2 => ⟨kz, ?_⟩))
     refine W ?_
     refine At.perm (List.Perm.swap _ _ _) ?_
     exact wk (g7 v2 vl)
    ·
     refine WD ?_
     refine sC rfl kz (R.sliceRd Tryz.underlying40 sz_43 (.t rfl) (wK M1) (.t rfl) rfl gO) ?_
     refine W ?_
     exact wk (g6 vl)
   have g11 : ∀ (vl : Value), At w 69 [] (fs (F52 .nilFunc vl .nilFunc .nilFunc) 40655) ([rowE iK 43 vl ([y]), .blk b1 (.cells (iK.enc y).toArray 43), dlB b Lv x, rowE iK 43 Lv x.l]) ([]) (G 8 (mF 21 [4, 6, 7, 10, 17, 18, 19, 20])) := fun vl => by
    refine hnode _ _ _ _ [(4, [tt 6], 6, (mF 21 [7, 10, 17, 18, 19, 20]))] (by kernel_rfl) kz ?_
    ·
     refine WD ?_
     refine sC rfl kz (R.sliceRd Tryz.underlying40 sz_43 (.t rfl) (wK M1) rfl (.t rfl) gO) ?_
     refine W ?_
     exact wk (g6 vl)
   have g12 : ∀ (_ : True), At w 69 [] (fs (F52 .nilFunc .nilFunc .nilFunc .nilFunc) 36447) ([.blk b1 (.cells (iK.enc y).toArray 43), dlB b Lv x, rowE iK 43 Lv x.l]) ([]) (G 9 (mF 21 [7, 9, 10, 14, 16, 17, 18, 19, 20])) := fun _ => by
    refine hnode _ _ _ _ [(7, [], 8, (mF 21 [9, 10, 14, 16, 17, 18, 19, 20])), (9, [], 8, (mF 21 [7, 10, 14, 16, 17, 18, 19, 20])), (14, [tt 16], 7, (mF 21 [7, 9, 10, 17, 18, 19, 20]))] (by kernel_rfl) kz ?_
    refine ⟨?_, ?_, ?_⟩
    ·
     (refine At.nilRow iK 43 ?_; refine At.app (k := iK) rfl rfl rfl Tryz.underlying40 et_43 .c (.t rfl) (fun _ => by (exact U0)) (RdIn.cutE (k := iK) (wS M3) _ _ (by omega) (by omega)) (by (simp <;> omega)) (fun v2 => ⟨kz, ?_⟩))
     refine W ?_
     exact wk (g9 v2)
    ·
     refine At.lit (k := iK) rfl rfl rfl Tryz.underlying40 et_43 (.k rfl .nil) (.cons rfl .nil) rfl rfl rfl (fun v2 => ⟨kz, ?_⟩)
     refine W ?_
     exact wk (g10 v2)
    ·
     refine WD ?_
     refine sC rfl kz (R.sliceRd Tryz.underlying40 sz_43 (.t rfl) (wK M1) (.t rfl) rfl gO) ?_
     refine W ?_
     exact wk (g8 trivial)
   have g13 : ∀ (_ : True), At w 69 [] (fs (F52 .nilFunc .nilFunc .nilFunc .nilFunc) 40527) ([.blk b1 (.cells (iK.enc y).toArray 43), dlB b Lv x, rowE iK 43 Lv x.l]) ([]) (G 9 (mF 21 [4, 6, 7, 9, 10, 17, 18, 19, 20])) := fun _ => by
    refine hnode _ _ _ _ [(4, [tt 6], 7, (mF 21 [7, 9, 10, 17, 18, 19, 20])), (9, [], 8, (mF 21 [4, 6, 7, 10, 17, 18, 19, 20]))] (by kernel_rfl) kz ?_
    refine ⟨?_, ?_⟩
    ·
     refine WD ?_
     refine sC rfl kz (R.sliceRd Tryz.underlying40 sz_43 (.t rfl) (wK M1) rfl (.t rfl) gO) ?_
     refine W ?_
     exact wk (g8 trivial)
    ·
     refine At.lit (k := iK) rfl rfl rfl Tryz.underlying40 et_43 (.k rfl .nil) (.cons rfl .nil) rfl rfl rfl (fun v2 => ⟨kz, ?_⟩)
     refine W ?_
     exact wk (g11 v2)
   have g14 : ∀ (vl : Value), At w 69 [] (fs (F52 .nilFunc vl .nilFunc .nilFunc) 36559) ([rowE iK 43 vl ([y]), .blk b1 (.cells (iK.enc y).toArray 43), dlB b Lv x, rowE iK 43 Lv x.l]) ([]) (G 10 (mF 21 [4, 6, 7, 10, 14, 16, 17, 18, 19, 20])) := fun vl => by
    refine hnode _ _ _ _ [(4, [tt 6], 8, (mF 21 [7, 10, 14, 16, 17, 18, 19, 20])), (14, [tt 16], 8, (mF 21 [4, 6, 7, 10, 17, 18, 19, 20]))] (by kernel_rfl) kz ?_
    refine ⟨?_, ?_⟩
    ·
     refine WD ?_
     refine sC rfl kz (R.sliceRd Tryz.underlying40 sz_43 (.t rfl) (wK M1) rfl (.t rfl) gO) ?_
     refine W ?_
     exact wk (g10 vl)
    ·
     refine WD ?_
     refine sC rfl kz (R.sliceRd Tryz.underlying40 sz_43 (.t rfl) (wK M1) (.t rfl) rfl gO) ?_
     refine W ?_
     exact wk (g11 vl)
   have g15 : ∀ (_ : True), At w 69 [] (fs (F52 .nilFunc .nilFunc .nilFunc .nilFunc) 36431) ([.blk b1 (.cells (iK.enc y).toArray 43), dlB b Lv x, rowE iK 43 Lv x.l]) ([]) (G 11 (mT 21 [0, 1, 2, 3, 5, 8, 11, 12, 13, 15])) := fun _ => by
    refine hnode _ _ _ _ [(4, [tt 6], 9, (mF 21 [7, 9, 10, 14, 16, 17, 18, 19, 20])), (9, [], 10, (mF 21 [4, 6, 7, 10, 14, 16, 17, 18, 19, 20])), (14, [tt 16], 9, (mF 21 [4, 6, 7, 9, 10, 17, 18, 19, 20]))] (by kernel_rfl) kz ?_
    refine ⟨?_, ?_, ?_⟩
    ·
     refine WD ?_
     refine sC rfl kz (R.sliceRd Tryz.underlying40 sz_43 (.t rfl) (wK M1) rfl (.t rfl) gO) ?_
     refine W ?_
     exact wk (g12 trivial)
    ·
     refine At.lit (k := iK) rfl rfl rfl Tryz.underlying40 et_43 (.k rfl .nil) (.cons rfl .nil) rfl rfl rfl (fun v2 => ⟨kz, ?_⟩)
     refine W ?_
     exact wk (g14 v2)
    ·
     refine WD ?_
     refine sC rfl kz (R.sliceRd Tryz.underlying40 sz_43 (.t rfl) (wK M1) (.t rfl) rfl gO) ?_
     refine W ?_
     exact wk (g13 trivial)
   refine W ?_
   exact wk (g15 trivial)
end Go.Proofs.YtbolanigdkgbdaaGreat
namespace Go.Proofs.YtbolanigdkgbdaaGreat
open Go Go.RowKit
set_option maxRecDepth 10000
set_option linter.unusedVariables false
set_option maxHeartbeats 1000000
theorem fo_63_0 : fieldOff? Tryz.prog 63 0 = some 0 := by kernel_rfl
theorem fo_63_1 : fieldOff? Tryz.prog 63 1 = some 4 := by kernel_rfl
theorem fo_63_10 : fieldOff? Tryz.prog 63 10 = some 13 := by kernel_rfl
theorem fo_63_2 : fieldOff? Tryz.prog 63 2 = some 5 := by kernel_rfl
theorem fo_63_3 : fieldOff? Tryz.prog 63 3 = some 6 := by kernel_rfl
structure Dl.ok (x : Dl) : Prop where
  chunk : -1152921504606846976 ≤ x.chunk ∧ x.chunk ≤ 1152921504606846976
  ii : -1 ≤ x.i ∧ x.i ≤ 1000
  ss : -1152921504606846976 ≤ x.s ∧ x.s ≤ 1152921504606846976
  gg : -1152921504606846976 ≤ x.g ∧ x.g ≤ 1152921504606846976
theorem Dl.next_l (x : Dl) : x.next.l = x.l := by unfold Dl.next; split <;> rfl
theorem Dl.seven_l (x : Dl) : x.seven.l = x.l := by
  unfold Dl.seven; split
  · rw [Dl.next_l]
  · rfl
def Dl.step (x : Dl) (r : Rr) : Dl × Rr :=
  if x.line = 1 then ((⟨x.th, x.cap, x.wd, x.ver, x.chunk, x.lo, x.hi, x.most, x.line, -1, (max 0 (min (r.peek (x.chunk + 1)) x.cap)), x.s, x.k, x.g, x.l⟩ : Dl).next, r.load (x.chunk + 1))
  else if x.line = 2 then if (r.peek (x.chunk + 7 + 3 * x.i)) ≤ 0 ∨ (r.peek (x.chunk + 7 + 3 * x.i)) = 2 then ((⟨x.th, x.cap, x.wd, x.ver, x.chunk, x.lo, x.hi, x.most, 3, x.i, x.count, (r.peek (x.chunk + 7 + 3 * x.i)), x.k, x.g, x.l⟩ : Dl).next, r.load (x.chunk + 7 + 3 * x.i)) else ((⟨x.th, x.cap, x.wd, x.ver, x.chunk, x.lo, x.hi, x.most, 3, x.i, x.count, (r.peek (x.chunk + 7 + 3 * x.i)), x.k, x.g, x.l⟩ : Dl), r.load (x.chunk + 7 + 3 * x.i))
  else if x.line = 3 then if (r.peek ((x.chunk + 7 + 3 * x.i) + 1)) < x.lo ∨ x.hi < (r.peek ((x.chunk + 7 + 3 * x.i) + 1)) then ((⟨x.th, x.cap, x.wd, x.ver, x.chunk, x.lo, x.hi, x.most, x.line, x.i, x.count, x.s, (r.peek ((x.chunk + 7 + 3 * x.i) + 1)), x.g, x.l⟩ : Dl).next, r.load ((x.chunk + 7 + 3 * x.i) + 1)) else if x.s = 1 then ((⟨x.th, x.cap, x.wd, x.ver, x.chunk, x.lo, x.hi, x.most, 4, x.i, x.count, x.s, (r.peek ((x.chunk + 7 + 3 * x.i) + 1)), x.g, x.l⟩ : Dl), r.load ((x.chunk + 7 + 3 * x.i) + 1)) else ((⟨x.th, x.cap, x.wd, x.ver, x.chunk, x.lo, x.hi, x.most, x.line, x.i, x.count, x.s, (r.peek ((x.chunk + 7 + 3 * x.i) + 1)), x.g, x.l⟩ : Dl).seven, r.load ((x.chunk + 7 + 3 * x.i) + 1))
  else if x.line = 4 then ((⟨x.th, x.cap, x.wd, x.ver, x.chunk, x.lo, x.hi, x.most, 5, x.i, x.count, x.s, x.k, (r.peek 1), x.l⟩ : Dl), r.load 1)
  else if x.line = 5 then ((⟨x.th, x.cap, x.wd, x.ver, x.chunk, x.lo, x.hi, x.most, 6, x.i, x.count, x.s, x.k, x.g, x.l⟩ : Dl), r.swap (x.chunk + 7 + 3 * x.i) 1 (min (max x.g 0) 16777212 + 3))
  else if x.line = 6 then if (r.peek (x.chunk + 7 + 3 * x.i)) < 3 then ((⟨x.th, x.cap, x.wd, x.ver, x.chunk, x.lo, x.hi, x.most, x.line, x.i, x.count, (r.peek (x.chunk + 7 + 3 * x.i)), x.k, x.g, x.l⟩ : Dl).next, r.load (x.chunk + 7 + 3 * x.i)) else ((⟨x.th, x.cap, x.wd, x.ver, x.chunk, x.lo, x.hi, x.most, x.line, x.i, x.count, (r.peek (x.chunk + 7 + 3 * x.i)), x.k, x.g, x.l⟩ : Dl).seven, r.load (x.chunk + 7 + 3 * x.i))
  else if x.line = 7 then ((⟨x.th, x.cap, x.wd, x.ver, x.chunk, x.lo, x.hi, x.most, x.line, x.i, x.count, x.s, x.k, x.g, (putD x.l ⟨x.k, verD x.s, r.peek ((x.chunk + 7 + 3 * x.i) + 2)⟩)⟩ : Dl).next, r.load ((x.chunk + 7 + 3 * x.i) + 2))
  else (x, r)
theorem Dl.step_1 {x : Dl} {r : Rr} (h : x.line = 1)  : Dl.step x r = ((⟨x.th, x.cap, x.wd, x.ver, x.chunk, x.lo, x.hi, x.most, x.line, -1, (max 0 (min (r.peek (x.chunk + 1)) x.cap)), x.s, x.k, x.g, x.l⟩ : Dl).next, r.load (x.chunk + 1)) := by unfold Dl.step; rw [if_pos h]
theorem Dl.step_2a {x : Dl} {r : Rr} (h : x.line = 2) (h0 : (r.peek (x.chunk + 7 + 3 * x.i)) ≤ 0 ∨ (r.peek (x.chunk + 7 + 3 * x.i)) = 2) : Dl.step x r = ((⟨x.th, x.cap, x.wd, x.ver, x.chunk, x.lo, x.hi, x.most, 3, x.i, x.count, (r.peek (x.chunk + 7 + 3 * x.i)), x.k, x.g, x.l⟩ : Dl).next, r.load (x.chunk + 7 + 3 * x.i)) := by unfold Dl.step; rw [if_neg (by omega), if_pos h, if_pos h0]
theorem Dl.step_2b {x : Dl} {r : Rr} (h : x.line = 2) (h0 : ¬ ((r.peek (x.chunk + 7 + 3 * x.i)) ≤ 0 ∨ (r.peek (x.chunk + 7 + 3 * x.i)) = 2)) : Dl.step x r = ((⟨x.th, x.cap, x.wd, x.ver, x.chunk, x.lo, x.hi, x.most, 3, x.i, x.count, (r.peek (x.chunk + 7 + 3 * x.i)), x.k, x.g, x.l⟩ : Dl), r.load (x.chunk + 7 + 3 * x.i)) := by unfold Dl.step; rw [if_neg (by omega), if_pos h, if_neg h0]
theorem Dl.step_3a {x : Dl} {r : Rr} (h : x.line = 3) (h0 : (r.peek ((x.chunk + 7 + 3 * x.i) + 1)) < x.lo ∨ x.hi < (r.peek ((x.chunk + 7 + 3 * x.i) + 1))) : Dl.step x r = ((⟨x.th, x.cap, x.wd, x.ver, x.chunk, x.lo, x.hi, x.most, x.line, x.i, x.count, x.s, (r.peek ((x.chunk + 7 + 3 * x.i) + 1)), x.g, x.l⟩ : Dl).next, r.load ((x.chunk + 7 + 3 * x.i) + 1)) := by unfold Dl.step; rw [if_neg (by omega), if_neg (by omega), if_pos h, if_pos h0]
theorem Dl.step_3b {x : Dl} {r : Rr} (h : x.line = 3) (h0 : ¬ ((r.peek ((x.chunk + 7 + 3 * x.i) + 1)) < x.lo ∨ x.hi < (r.peek ((x.chunk + 7 + 3 * x.i) + 1)))) (h1 : x.s = 1) : Dl.step x r = ((⟨x.th, x.cap, x.wd, x.ver, x.chunk, x.lo, x.hi, x.most, 4, x.i, x.count, x.s, (r.peek ((x.chunk + 7 + 3 * x.i) + 1)), x.g, x.l⟩ : Dl), r.load ((x.chunk + 7 + 3 * x.i) + 1)) := by unfold Dl.step; rw [if_neg (by omega), if_neg (by omega), if_pos h, if_neg h0, if_pos h1]
theorem Dl.step_3c {x : Dl} {r : Rr} (h : x.line = 3) (h0 : ¬ ((r.peek ((x.chunk + 7 + 3 * x.i) + 1)) < x.lo ∨ x.hi < (r.peek ((x.chunk + 7 + 3 * x.i) + 1)))) (h1 : ¬ (x.s = 1)) : Dl.step x r = ((⟨x.th, x.cap, x.wd, x.ver, x.chunk, x.lo, x.hi, x.most, x.line, x.i, x.count, x.s, (r.peek ((x.chunk + 7 + 3 * x.i) + 1)), x.g, x.l⟩ : Dl).seven, r.load ((x.chunk + 7 + 3 * x.i) + 1)) := by unfold Dl.step; rw [if_neg (by omega), if_neg (by omega), if_pos h, if_neg h0, if_neg h1]
theorem Dl.step_4 {x : Dl} {r : Rr} (h : x.line = 4)  : Dl.step x r = ((⟨x.th, x.cap, x.wd, x.ver, x.chunk, x.lo, x.hi, x.most, 5, x.i, x.count, x.s, x.k, (r.peek 1), x.l⟩ : Dl), r.load 1) := by unfold Dl.step; rw [if_neg (by omega), if_neg (by omega), if_neg (by omega), if_pos h]
theorem Dl.step_5 {x : Dl} {r : Rr} (h : x.line = 5)  : Dl.step x r = ((⟨x.th, x.cap, x.wd, x.ver, x.chunk, x.lo, x.hi, x.most, 6, x.i, x.count, x.s, x.k, x.g, x.l⟩ : Dl), r.swap (x.chunk + 7 + 3 * x.i) 1 (min (max x.g 0) 16777212 + 3)) := by unfold Dl.step; rw [if_neg (by omega), if_neg (by omega), if_neg (by omega), if_neg (by omega), if_pos h]
theorem Dl.step_6a {x : Dl} {r : Rr} (h : x.line = 6) (h0 : (r.peek (x.chunk + 7 + 3 * x.i)) < 3) : Dl.step x r = ((⟨x.th, x.cap, x.wd, x.ver, x.chunk, x.lo, x.hi, x.most, x.line, x.i, x.count, (r.peek (x.chunk + 7 + 3 * x.i)), x.k, x.g, x.l⟩ : Dl).next, r.load (x.chunk + 7 + 3 * x.i)) := by unfold Dl.step; rw [if_neg (by omega), if_neg (by omega), if_neg (by omega), if_neg (by omega), if_neg (by omega), if_pos h, if_pos h0]
theorem Dl.step_6b {x : Dl} {r : Rr} (h : x.line = 6) (h0 : ¬ ((r.peek (x.chunk + 7 + 3 * x.i)) < 3)) : Dl.step x r = ((⟨x.th, x.cap, x.wd, x.ver, x.chunk, x.lo, x.hi, x.most, x.line, x.i, x.count, (r.peek (x.chunk + 7 + 3 * x.i)), x.k, x.g, x.l⟩ : Dl).seven, r.load (x.chunk + 7 + 3 * x.i)) := by unfold Dl.step; rw [if_neg (by omega), if_neg (by omega), if_neg (by omega), if_neg (by omega), if_neg (by omega), if_pos h, if_neg h0]
theorem Dl.step_7 {x : Dl} {r : Rr} (h : x.line = 7)  : Dl.step x r = ((⟨x.th, x.cap, x.wd, x.ver, x.chunk, x.lo, x.hi, x.most, x.line, x.i, x.count, x.s, x.k, x.g, (putD x.l ⟨x.k, verD x.s, r.peek ((x.chunk + 7 + 3 * x.i) + 2)⟩)⟩ : Dl).next, r.load ((x.chunk + 7 + 3 * x.i) + 2)) := by unfold Dl.step; rw [if_neg (by omega), if_neg (by omega), if_neg (by omega), if_neg (by omega), if_neg (by omega), if_neg (by omega), if_pos h]
theorem Dl.step_o {x : Dl} {r : Rr} (h1 : ¬ x.line = 1) (h2 : ¬ x.line = 2) (h3 : ¬ x.line = 3) (h4 : ¬ x.line = 4) (h5 : ¬ x.line = 5) (h6 : ¬ x.line = 6) (h7 : ¬ x.line = 7) : Dl.step x r = (x, r) := by unfold Dl.step; rw [if_neg h1, if_neg h2, if_neg h3, if_neg h4, if_neg h5, if_neg h6, if_neg h7]
theorem dl_Step {b ba n : Nat} {wv Lv : Value} {x : Dl} {r : Rr} (hx : x.ok) (hL : x.l.length ≤ 10000) (hn : r.w.length = n) (hN : n ≤ 1000000) (hf : r.few) (hw : r.mid 1152921504606846976) : FnX Tryz.prog 27 [.pointer (some ⟨b, 0, none⟩), .pointer (some ⟨ba, 0, none⟩)] ([]) ([dlB b Lv x, rowE iK 43 Lv x.l, raB ba wv r, raW wv n r]) (fun v N => ∃ Lv2, v = .bool (decide ((x.step r).1.line = 0)) ∧ N = [dlB b Lv2 (x.step r).1, rowE iK 43 Lv2 (x.step r).1.l, raB ba wv (x.step r).2, raW wv n (x.step r).2]) := by
 refine FnX.enter Tryz.func27 (by kernel_rfl) rfl (n := 176) rfl rfl (fun w df hds how => ?_)
 have hx0 := hx
 obtain ⟨hx1, hx2, hx3, hx4⟩ := hx
 have hpk := Rr.peek_mid hw (by decide) (x.chunk + 7 + 3 * x.i)
 have hpk1 := Rr.peek_mid hw (by decide) ((x.chunk + 7 + 3 * x.i) + 1)
 refine W ?_
 refine At.drawK [tt 0, tt 1, tt 2, tt 3, tt 4, tt 5, tt 6, tt 7, ff 8, tt 9] (by kernel_rfl) (by kernel_rfl) ?_
 refine W ?_
 refine At.callVR rfl rfl rfl (.k rfl (.k rfl .nil)) (.nil) (fun hg => r_StateAt (by omega) (by omega)) kI ?_
 refine Z ?_
 refine At.condD (.t rfl) (fun c1 => ?_) (fun c1 => ?_)
 ·
  have hl1 : x.line = 1 := (by simpa using c1); have hst := Dl.step_1 (r := r) hl1 
  refine W ?_
  refine At.drawM ([dlB b Lv x]) ([]) [tt 0, tt 1, tt 2, tt 3, tt 4, tt 5, tt 9, tt 10, tt 11, tt 12] [tt 6, tt 7, tt 13, ff 8, tt 14, tt 15] [tt 16, tt 17, ff 18, tt 19, tt 20, ff 21] (keepOf sl) (fun _ h => nomatch h) (by kernel_rfl) (by kernel_rfl) ?_
  refine V ?_
  refine At.stage kz ?_
  refine W ?_
  refine cM rfl rfl rfl (.k rfl (.k rfl .nil)) rfl (.n (.skip (.skip (.take (.take .nil))))) .nil (r_Load (r := r) (i := x.chunk + 1) hn hN hf) keysRa .nil ⟨kz, ?_⟩
  refine VZ ?_
  refine At.stage Cl.none ?_
  refine W ?_
  refine At.st1 rfl rfl sz_3 (.t rfl) (.t rfl) rfl rfl (.n U0) ⟨Cl.none, ?_⟩
  refine W ?_
  refine At.st1 rfl rfl sz_3 (.t rfl) .c rfl rfl (.n U0) ⟨Cl.none, ?_⟩
  refine W ?_
  refine cM rfl rfl rfl (.k rfl .nil) rfl (.n (.take .nil)) .nil (dl_next (x := (⟨x.th, x.cap, x.wd, x.ver, x.chunk, x.lo, x.hi, x.most, x.line, -1, (max 0 (min (r.peek (x.chunk + 1)) x.cap)), x.s, x.k, x.g, x.l⟩ : Dl)) (by dsimp only; omega)) rfl .nil ⟨.all, ?_⟩
  refine Z ?_
  exact At.finalX (N' := [.blk b (.cells _ 63), rowE iK 43 Lv x.l, .blk ba (.cells _ 59), .row wv _ 1 n _]) hds how rfl (.t rfl) (List.Sublist.refl _) (⟨_, by (rw [hst]; done), by (rw [hst, Dl.next_l]; done)⟩)
 ·
  refine Z ?_
  refine At.condD (.t rfl) (fun c2 => ?_) (fun c2 => ?_)
  ·
   have hl2 : x.line = 2 := (by simpa using c2)
   refine W ?_
   refine cM rfl rfl rfl (.k rfl (.k rfl .nil)) rfl (.n (.skip (.skip (.take (.take .nil))))) .nil (r_Load (r := r) (i := (x.chunk + 7 + 3 * x.i)) hn hN hf) keysRa .nil ⟨.all, ?_⟩
   refine W ?_
   refine At.st1 rfl rfl sz_3 (.t rfl) (.t rfl) rfl rfl (.n U0) ⟨.all, ?_⟩
   refine W ?_
   refine At.st1 rfl rfl sz_3 (.t rfl) .c rfl rfl (.n U0) ⟨.all, ?_⟩
   refine Z ?_
   refine At.cond (.t rfl) (fun c3 => ?_) (fun c3 => ?_)
   ·
    have hst := Dl.step_2a (r := r) hl2 (by simp at c3; omega)
    refine W ?_
    refine cM rfl rfl rfl (.k rfl .nil) rfl (.n (.take .nil)) .nil (dl_next (x := (⟨x.th, x.cap, x.wd, x.ver, x.chunk, x.lo, x.hi, x.most, 3, x.i, x.count, (r.peek (x.chunk + 7 + 3 * x.i)), x.k, x.g, x.l⟩ : Dl)) (by dsimp only; omega)) rfl .nil ⟨.all, ?_⟩
    refine Z ?_
    exact At.finalX (N' := [.blk b (.cells _ 63), rowE iK 43 Lv x.l, .blk ba (.cells _ 59), .row wv _ 1 n _]) hds how rfl (.t rfl) (List.Sublist.refl _) (⟨_, by (rw [hst]; done), by (rw [hst, Dl.next_l]; done)⟩)
   ·
    have hst := Dl.step_2b (r := r) hl2 (by simp at c3; omega)
    refine Y ?_
    exact At.finalX (N' := [.blk b (.cells _ 63), rowE iK 43 Lv x.l, .blk ba (.cells _ 59), .row wv _ 1 n _]) hds how rfl (.t rfl) (List.Sublist.refl _) (⟨_, by (rw [hst]; rfl), by (rw [hst]; rfl)⟩)
  ·
   refine Z ?_
   refine At.condD (.t rfl) (fun c4 => ?_) (fun c4 => ?_)
   ·
    have hl3 : x.line = 3 := (by simpa using c4)
    refine W ?_
    refine cM rfl rfl rfl (.k rfl (.k rfl .nil)) rfl (.n (.skip (.skip (.take (.take .nil))))) .nil (r_Load (r := r) (i := (x.chunk + 7 + 3 * x.i) + 1) hn hN hf) keysRa .nil ⟨.all, ?_⟩
    refine W ?_
    refine At.st1 rfl rfl sz_3 (.t rfl) (.t rfl) rfl rfl (.n U0) ⟨.all, ?_⟩
    refine W ?_
    refine At.drawK [tt 0, tt 1, tt 2, tt 3, tt 4, tt 5, tt 6, tt 7, tt 8, tt 9, tt 10, tt 11, tt 12, tt 13, tt 14, tt 15, tt 16, tt 17, tt 18, tt 19, tt 20] (by kernel_rfl) (by kernel_rfl) ?_
    refine Z ?_
    refine At.cond (.t rfl) (fun c5 => ?_) (fun c5 => ?_)
    ·
     have hst := Dl.step_3a (r := r) hl3 (by simp at c5; omega)
     refine W ?_
     refine cM rfl rfl rfl (.k rfl .nil) rfl (.n (.take .nil)) .nil (dl_next (x := (⟨x.th, x.cap, x.wd, x.ver, x.chunk, x.lo, x.hi, x.most, x.line, x.i, x.count, x.s, (r.peek ((x.chunk + 7 + 3 * x.i) + 1)), x.g, x.l⟩ : Dl)) (by dsimp only; omega)) rfl .nil ⟨.all, ?_⟩
     refine Z ?_
     exact At.finalX (N' := [.blk b (.cells _ 63), rowE iK 43 Lv x.l, .blk ba (.cells _ 59), .row wv _ 1 n _]) hds how rfl (.t rfl) (List.Sublist.refl _) (⟨_, by (rw [hst]; done), by (rw [hst, Dl.next_l]; done)⟩)
    ·
     refine Z ?_
     refine At.condD (.t rfl) (fun c6 => ?_) (fun c6 => ?_)
     ·
      have hst := Dl.step_3b (r := r) hl3 (by simp at c5; omega) (by simpa using c6)
      refine W ?_
      refine At.st1 rfl rfl sz_3 (.t rfl) .c rfl rfl (.n U0) ⟨.all, ?_⟩
      refine Y ?_
      exact At.finalX (N' := [.blk b (.cells _ 63), rowE iK 43 Lv x.l, .blk ba (.cells _ 59), .row wv _ 1 n _]) hds how rfl (.t rfl) (List.Sublist.refl _) (⟨_, by (rw [hst]; rfl), by (rw [hst]; rfl)⟩)
     ·
      have hst := Dl.step_3c (r := r) hl3 (by simp at c5; omega) (by simpa using c6)
      refine W ?_
      refine cM rfl rfl rfl (.k rfl .nil) rfl (.n (.take .nil)) (.cons (wS M1) .nil) (dl_seven (x := (⟨x.th, x.cap, x.wd, x.ver, x.chunk, x.lo, x.hi, x.most, x.line, x.i, x.count, x.s, (r.peek ((x.chunk + 7 + 3 * x.i) + 1)), x.g, x.l⟩ : Dl)) (by dsimp only; omega) (by dsimp only; omega) (by dsimp only; omega)) rfl (Aprt.row (E := 43) (.inl sl)) ⟨.all, ?_⟩
      refine Z ?_
      exact At.finalX (N' := [.blk b (.cells _ 63), rowE iK 43 Lv x.l, .blk ba (.cells _ 59), .row wv _ 1 n _]) hds how rfl (.t rfl) (List.Sublist.refl _) (⟨_, by (rw [hst]; done), by (rw [hst, Dl.seven_l]; done)⟩)
   ·
    refine Z ?_
    refine At.condD (.t rfl) (fun c7 => ?_) (fun c7 => ?_)
    ·
     have hl4 : x.line = 4 := (by simpa using c7); have hst := Dl.step_4 (r := r) hl4 
     refine W ?_
     refine cM rfl rfl rfl (.k rfl (.kc .nil)) rfl (.n (.skip (.skip (.take (.take .nil))))) .nil (r_Load (r := r) (i := 1) hn hN hf) keysRa .nil ⟨.all, ?_⟩
     refine W ?_
     refine At.st1 rfl rfl sz_3 (.t rfl) (.t rfl) rfl rfl (.n U0) ⟨.all, ?_⟩
     refine W ?_
     refine At.st1 rfl rfl sz_3 (.t rfl) .c rfl rfl (.n U0) ⟨.all, ?_⟩
     refine Y ?_
     exact At.finalX (N' := [.blk b (.cells _ 63), rowE iK 43 Lv x.l, .blk ba (.cells _ 59), .row wv _ 1 n _]) hds how rfl (.t rfl) (List.Sublist.refl _) (⟨_, by (rw [hst]; rfl), by (rw [hst]; rfl)⟩)
    ·
     refine Z ?_
     refine At.condD (.t rfl) (fun c8 => ?_) (fun c8 => ?_)
     ·
      have hl5 : x.line = 5 := (by simpa using c8); have hst := Dl.step_5 (r := r) hl5 
      refine W ?_
      refine At.callVR rfl rfl rfl (.k rfl .nil) (.nil) (fun hg => r_State) .all ?_
      refine cM rfl rfl rfl (.k rfl (.k rfl (.kc (.k rfl .nil)))) rfl (.n (.skip (.skip (.take (.take .nil))))) .nil (r_Swap (r := r) (i := (x.chunk + 7 + 3 * x.i)) (o := 1) (x := min (max x.g 0) 16777212 + 3) hn hN hf) keysRa .nil ⟨.all, ?_⟩
      refine W ?_
      refine At.st1 rfl rfl sz_3 (.t rfl) .c rfl rfl (.n U0) ⟨.all, ?_⟩
      refine Y ?_
      exact At.finalX (N' := [.blk b (.cells _ 63), rowE iK 43 Lv x.l, .blk ba (.cells _ 59), .row wv _ 1 n _]) hds how rfl (.t rfl) (List.Sublist.refl _) (⟨_, by (rw [hst]; rfl), by (rw [hst]; rfl)⟩)
     ·
      refine Z ?_
      refine At.condD (.t rfl) (fun c9 => ?_) (fun c9 => ?_)
      ·
       have hl6 : x.line = 6 := (by simpa using c9)
       refine W ?_
       refine cM rfl rfl rfl (.k rfl (.k rfl .nil)) rfl (.n (.skip (.skip (.take (.take .nil))))) .nil (r_Load (r := r) (i := (x.chunk + 7 + 3 * x.i)) hn hN hf) keysRa .nil ⟨.all, ?_⟩
       refine W ?_
       refine At.st1 rfl rfl sz_3 (.t rfl) (.t rfl) rfl rfl (.n U0) ⟨.all, ?_⟩
       refine Z ?_
       refine At.condD (.t rfl) (fun c10 => ?_) (fun c10 => ?_)
       ·
        have hst := Dl.step_6a (r := r) hl6 (by simpa using c10)
        refine W ?_
        refine cM rfl rfl rfl (.k rfl .nil) rfl (.n (.take .nil)) .nil (dl_next (x := (⟨x.th, x.cap, x.wd, x.ver, x.chunk, x.lo, x.hi, x.most, x.line, x.i, x.count, (r.peek (x.chunk + 7 + 3 * x.i)), x.k, x.g, x.l⟩ : Dl)) (by dsimp only; omega)) rfl .nil ⟨.all, ?_⟩
        refine Z ?_
        exact At.finalX (N' := [.blk b (.cells _ 63), rowE iK 43 Lv x.l, .blk ba (.cells _ 59), .row wv _ 1 n _]) hds how rfl (.t rfl) (List.Sublist.refl _) (⟨_, by (rw [hst]; done), by (rw [hst, Dl.next_l]; done)⟩)
       ·
        have hst := Dl.step_6b (r := r) hl6 (by simpa using c10)
        refine W ?_
        refine cM rfl rfl rfl (.k rfl .nil) rfl (.n (.take .nil)) (.cons (wS M1) .nil) (dl_seven (x := (⟨x.th, x.cap, x.wd, x.ver, x.chunk, x.lo, x.hi, x.most, x.line, x.i, x.count, (r.peek (x.chunk + 7 + 3 * x.i)), x.k, x.g, x.l⟩ : Dl)) (by dsimp only; omega) (by dsimp only; omega) (by dsimp only; omega)) rfl (Aprt.row (E := 43) (.inl sl)) ⟨.all, ?_⟩
        refine Z ?_
        exact At.finalX (N' := [.blk b (.cells _ 63), rowE iK 43 Lv x.l, .blk ba (.cells _ 59), .row wv _ 1 n _]) hds how rfl (.t rfl) (List.Sublist.refl _) (⟨_, by (rw [hst]; done), by (rw [hst, Dl.seven_l]; done)⟩)
      ·
       refine Z ?_
       refine At.condD (.t rfl) (fun c11 => ?_) (fun c11 => ?_)
       ·
        have hl7 : x.line = 7 := (by simpa using c11); have hst := Dl.step_7 (r := r) hl7 
        refine W ?_
        let F127 : Fr := [(153, pt b 0), (156, pt b 12), (157, iv x.k), (160, pt b 11), (161, iv x.s), (162, iv (verD x.s)), (163, pt ba 0), (165, iv ((x.chunk + 7 + 3 * x.i) + 2)), (166, iv (r.peek ((x.chunk + 7 + 3 * x.i) + 2))), (167, true, .agg #[.int .i64 x.k, .int .i64 (verD x.s), .int .i64 (r.peek ((x.chunk + 7 + 3 * x.i) + 2))]), (0, pt b 0), (1, pt ba 0)]
        refine At.dag [tt 0, tt 1, tt 2, tt 3, tt 5, tt 6, tt 7, tt 10, tt 11, tt 12] 6 (mF 16 [4, 8, 9, 13, 14, 15]) ([]) (by (exact keepOf (List.nil_sublist _))) (by kernel_rfl) (by kernel_rfl) (fun G hnode hdone => ?_)
        have g0 : ∀ (Lv2 : Value), At w 176 [] (fs F127 4095) ([dlB b Lv2 x, rowE iK 43 Lv2 (putD x.l ⟨x.k, verD x.s, r.peek ((x.chunk + 7 + 3 * x.i) + 2)⟩), raB ba wv (r.load ((x.chunk + 7 + 3 * x.i) + 2)), raW wv n (r.load ((x.chunk + 7 + 3 * x.i) + 2))]) ([]) (G 0 (mF 16 [])) := fun Lv2 => by
         refine hdone _ _ _ (by kernel_rfl) ?_
         refine W ?_
         refine cM rfl rfl rfl (.k rfl .nil) rfl (.n (.take .nil)) .nil (dl_next (x := (⟨x.th, x.cap, x.wd, x.ver, x.chunk, x.lo, x.hi, x.most, x.line, x.i, x.count, x.s, x.k, x.g, (putD x.l ⟨x.k, verD x.s, r.peek ((x.chunk + 7 + 3 * x.i) + 2)⟩)⟩ : Dl)) (by dsimp only; omega)) rfl .nil ⟨.all, ?_⟩
         refine Z ?_
         exact At.finalX (N' := [.blk b (.cells _ 63), rowE iK 43 Lv2 (putD x.l ⟨x.k, verD x.s, r.peek ((x.chunk + 7 + 3 * x.i) + 2)⟩), .blk ba (.cells _ 59), .row wv _ 1 n _]) hds how rfl (.t rfl) (List.Sublist.refl _) (⟨_, by (rw [hst]; done), by (rw [hst, Dl.next_l]; done)⟩)
        have g1 : ∀ (_ : True), At w 176 [] (fs F127 4095) ([dlB b Lv x, rowE iK 43 Lv x.l, raB ba wv (r.load ((x.chunk + 7 + 3 * x.i) + 2)), raW wv n (r.load ((x.chunk + 7 + 3 * x.i) + 2))]) ([]) (G 1 (mF 16 [15])) := fun _ => by
         refine hnode _ _ _ _ [(15, [], 0, (mF 16 []))] (by kernel_rfl) kz ?_
         ·
          refine cX rfl rfl rfl (.k rfl (.k rfl .nil)) rfl (.take (.take .nil)) .nil (dl_put (b := b) (Lv := Lv) (x := x) (y := ⟨x.k, verD x.s, r.peek ((x.chunk + 7 + 3 * x.i) + 2)⟩) (by omega)) Aprt.nil (fun v B hR => ⟨Cl.none, ?_⟩); obtain ⟨Lv2, rfl, rfl⟩ := hR; refine At.perm (List.Perm.swap _ _ _) ?_
          refine W ?_
          exact wk (g0 Lv2)
        have g2 : ∀ (_ : True), At w 176 [] (fs F127 3327) ([dlB b Lv x, rowE iK 43 Lv x.l, raB ba wv r, raW wv n r]) ([]) (G 3 (mF 16 [13, 14, 15])) := fun _ => by
         refine hnode _ _ _ _ [(13, [tt 14], 1, (mF 16 [15]))] (by kernel_rfl) kz ?_
         ·
          refine cM rfl rfl rfl (.k rfl (.k rfl .nil)) rfl (.n (.skip (.skip (.take (.take .nil))))) .nil (r_Load (r := r) (i := (x.chunk + 7 + 3 * x.i) + 2) hn hN hf) keysRa .nil ⟨kz, ?_⟩
          refine sC rfl kz (R.build bt_43 (.k rfl (.k rfl (.k rfl .nil))) (.cons rfl (.cons rfl (.cons rfl .nil))) rfl) ?_
          refine W ?_
          exact wk (g1 trivial)
        have g3 : ∀ (_ : True), At w 176 [] (fs F127 3579) ([dlB b Lv x, rowE iK 43 Lv x.l, raB ba wv (r.load ((x.chunk + 7 + 3 * x.i) + 2)), raW wv n (r.load ((x.chunk + 7 + 3 * x.i) + 2))]) ([]) (G 3 (mF 16 [4, 14, 15])) := fun _ => by
         refine hnode _ _ _ _ [(4, [tt 14], 1, (mF 16 [15]))] (by kernel_rfl) kz ?_
         ·
          refine WD ?_
          refine sC rfl kz (R.build bt_43 (.k rfl (.k rfl (.k rfl .nil))) (.cons rfl (.cons rfl (.cons rfl .nil))) rfl) ?_
          refine W ?_
          exact wk (g1 trivial)
        have g4 : ∀ (_ : True), At w 176 [] (fs F127 3295) ([dlB b Lv x, rowE iK 43 Lv x.l, raB ba wv r, raW wv n r]) ([]) (G 4 (mF 16 [9, 13, 14, 15])) := fun _ => by
         refine hnode _ _ _ _ [(9, [], 3, (mF 16 [13, 14, 15]))] (by kernel_rfl) kz ?_
         ·
          refine At.callVR rfl rfl rfl (.k rfl .nil) (.nil) (fun hg => r_Version (by omega)) kz ?_
          refine W ?_
          exact wk (g2 trivial)
        have g5 : ∀ (_ : True), At w 176 [] (fs F127 3323) ([dlB b Lv x, rowE iK 43 Lv x.l, raB ba wv r, raW wv n r]) ([]) (G 4 (mF 16 [4, 13, 14, 15])) := fun _ => by
         refine hnode _ _ _ _ [(4, [], 3, (mF 16 [13, 14, 15])), (13, [], 3, (mF 16 [4, 14, 15]))] (by kernel_rfl) kz ?_
         refine ⟨?_, ?_⟩
         ·
          refine WD ?_
          exact wk (g2 trivial)
         ·
          refine cM rfl rfl rfl (.k rfl (.k rfl .nil)) rfl (.n (.skip (.skip (.take (.take .nil))))) .nil (r_Load (r := r) (i := (x.chunk + 7 + 3 * x.i) + 2) hn hN hf) keysRa .nil ⟨kz, ?_⟩
          refine W ?_
          exact wk (g3 trivial)
        have g6 : ∀ (_ : True), At w 176 [] (fs F127 3279) ([dlB b Lv x, rowE iK 43 Lv x.l, raB ba wv r, raW wv n r]) ([]) (G 5 (mF 16 [8, 9, 13, 14, 15])) := fun _ => by
         refine hnode _ _ _ _ [(8, [], 4, (mF 16 [9, 13, 14, 15]))] (by kernel_rfl) kz ?_
         ·
          refine WD ?_
          exact wk (g4 trivial)
        have g7 : ∀ (_ : True), At w 176 [] (fs F127 3291) ([dlB b Lv x, rowE iK 43 Lv x.l, raB ba wv r, raW wv n r]) ([]) (G 5 (mF 16 [4, 9, 13, 14, 15])) := fun _ => by
         refine hnode _ _ _ _ [(4, [], 4, (mF 16 [9, 13, 14, 15])), (9, [], 4, (mF 16 [4, 13, 14, 15]))] (by kernel_rfl) kz ?_
         refine ⟨?_, ?_⟩
         ·
          refine WD ?_
          exact wk (g4 trivial)
         ·
          refine At.callVR rfl rfl rfl (.k rfl .nil) (.nil) (fun hg => r_Version (by omega)) kz ?_
          refine W ?_
          exact wk (g5 trivial)
        have g8 : ∀ (_ : True), At w 176 [] (fs F127 3275) ([dlB b Lv x, rowE iK 43 Lv x.l, raB ba wv r, raW wv n r]) ([]) (G 6 (mF 16 [4, 8, 9, 13, 14, 15])) := fun _ => by
         refine hnode _ _ _ _ [(4, [], 5, (mF 16 [8, 9, 13, 14, 15])), (8, [], 5, (mF 16 [4, 9, 13, 14, 15]))] (by kernel_rfl) kz ?_
         refine ⟨?_, ?_⟩
         ·
          refine WD ?_
          exact wk (g6 trivial)
         ·
          refine WD ?_
          exact wk (g7 trivial)
        refine W ?_
        exact wk (g8 trivial)
       ·
        have hst := Dl.step_o (r := r) (by simpa using c1) (by simpa using c2) (by simpa using c4) (by simpa using c7) (by simpa using c8) (by simpa using c9) (by simpa using c11)
        refine Z ?_
        exact At.finalX (N' := [.blk b (.cells _ 63), rowE iK 43 Lv x.l, .blk ba (.cells _ 59), .row wv _ 1 n _]) hds how rfl (.t rfl) (List.Sublist.refl _) (⟨_, by (rw [hst]; done), by (rw [hst]; done)⟩)
end Go.Proofs.YtbolanigdkgbdaaGreat
namespace Go.Proofs.YtbolanigdkgbdaaGreat
open Go Go.RowKit
set_option maxRecDepth 10000
set_option linter.unusedVariables false
set_option maxHeartbeats 1000000
theorem bt_134 : buildTab Tryz.prog 134 = some (#[.int .i64 0, .bool false, .int .i64 0, .int .i64 0, .int .i64 0, .slice none 0 0], [(0, 1), (1, 1), (2, 1), (3, 1), (4, 1), (5, 1)]) := by kernel_rfl
theorem bt_156 : buildTab Tryz.prog 156 = some (#[.int .i64 0, .int .i64 0, .int .i64 0, .int .i64 0, .int .i64 0, .pointer none, .pointer none, .bool false], [(0, 1), (1, 4), (5, 1), (6, 1), (7, 1)]) := by kernel_rfl
theorem fo_156_0 : fieldOff? Tryz.prog 156 0 = some 0 := by kernel_rfl
theorem fo_156_1 : fieldOff? Tryz.prog 156 1 = some 1 := by kernel_rfl
theorem fo_156_2 : fieldOff? Tryz.prog 156 2 = some 5 := by kernel_rfl
theorem fo_156_3 : fieldOff? Tryz.prog 156 3 = some 6 := by kernel_rfl
theorem fo_156_4 : fieldOff? Tryz.prog 156 4 = some 7 := by kernel_rfl
theorem fo_43_2 : fieldOff? Tryz.prog 43 2 = some 2 := by kernel_rfl
theorem sz_134 : (Tryz.prog.info? 134).map (·.size) = some 6 := by kernel_rfl
theorem sz_4 : (Tryz.prog.info? 4).map (·.size) = some 1 := by kernel_rfl
theorem sz_52 : (Tryz.prog.info? 52).map (·.size) = some 1 := by kernel_rfl
theorem ze_134 : (Tryz.prog.info? 134).bind (·.zero) = some (.agg #[.int .i64 0, .bool false, .int .i64 0, .int .i64 0, .int .i64 0, .slice none 0 0]) := by kernel_rfl
structure An where
  code : Int
  found : Bool
  val : Int
  writer : Int
  version : Int
abbrev anV (x : An) (pv : Value) : Array Value := #[.int .i64 x.code, .bool x.found, .int .i64 x.val, .int .i64 x.writer, .int .i64 x.version, pv]
def foundD (l : List Itm) (key : Int) : An := match l.find? (fun y => decide (y.key = key)) with
  | some y => ⟨0, decide (0 ≤ y.data % 2097152 - 1), max 0 (y.data % 2097152 - 1), y.data / 2097152, 0⟩
  | none => ⟨0, false, 0, -1, 0⟩
theorem foundD_yes {l : List Itm} {key : Int} {i : Nat} (h : i < l.length) (h1 : (gE l (i : Int)).key = key) (h2 : ∀ j : Nat, j < i → (gE l (j : Int)).key ≠ key) : foundD l key = ⟨0, decide (0 ≤ (gE l (i : Int)).data % 2097152 - 1), max 0 ((gE l (i : Int)).data % 2097152 - 1), (gE l (i : Int)).data / 2097152, 0⟩ := by
  have : l.find? (fun y => decide (y.key = key)) = some (gE l (i : Int)) := by
    rw [List.find?_eq_some_iff_getElem]
    refine ⟨by simpa using h1, i, h, by simp [gE, h], fun j hj => ?_⟩
    have := h2 j hj
    simpa [gE, show j < l.length by omega] using this
  unfold foundD; rw [this]
theorem foundD_no {l : List Itm} {key : Int} {i : Nat} (h : l.length ≤ i) (h2 : ∀ j : Nat, j < i → (gE l (j : Int)).key ≠ key) : foundD l key = ⟨0, false, 0, -1, 0⟩ := by
  have : l.find? (fun y => decide (y.key = key)) = none := by
    rw [List.find?_eq_none]
    intro y hy
    obtain ⟨j, hj, rfl⟩ := List.getElem_of_mem hy
    have := h2 j (by omega)
    simpa [gE, hj] using this
  unfold foundD; rw [this]
abbrev dgC (a b c d key : Int) (bw : Nat) (lp : Option Nat) (over : Bool) : Array Value := #[.int .i64 key, .int .i64 a, .int .i64 b, .int .i64 c, .int .i64 d, .pointer (some ⟨bw, 0, none⟩), .pointer (match lp with | none => none | some bl => some ⟨bl, 0, none⟩), .bool over]
abbrev dgB (bg : Nat) (a b c d key : Int) (bw : Nat) (lp : Option Nat) (over : Bool) : Ent := .blk bg (.cells (dgC a b c d key bw lp over) 156)
theorem keysDw {b ba n : Nat} {wv : Value} {k k' : Dw} {x y x' y' : Rr} : keys [dwB b k, raB ba wv x, raW wv n y] = keys [dwB b k', raB ba wv x', raW wv n y'] := rfl
theorem dg_Found {v : Value} {l : List Itm} {key : Int} (hL : l.length ≤ 1000000) : Fn Tryz.prog 122 [v, .int .i64 key] ([rdE iK v l]) ([]) (IsV (.agg (anV (foundD l key) (.slice none 0 0)))) := by
 refine Fn.enter Tryz.func122 (by kernel_rfl) rfl (n := 38) rfl rfl (fun w => ?_)
 refine W ?_
 refine At.alloc rfl rfl rfl ze_134 (fun b1 hb1 => ⟨.all, ?_⟩)
 refine W ?_
 refine At.loop1 (fun (i : Nat) => i ≤ l.length ∧ ∀ j : Nat, j < i → (gE l (j : Int)).key ≠ key) (fun (i : Nat) => l.length - i) (fun (i : Nat) => [(0, true, v), (1, true, .int .i64 key), (4, true, .pointer (some ⟨b1, 0, none⟩)), (5, true, .int .i64 i)]) (fun (i : Nat) => [.blk b1 (.cells #[.int .i64 0, .bool false, .int .i64 0, .int .i64 0, .int .i64 0, .slice none 0 0] 134)]) (fun (i : Nat) => []) (0) ⟨Nat.zero_le _, fun j hj => absurd hj (Nat.not_lt_zero _)⟩ (.cons rfl (.cons rfl (.cons rfl (.cons rfl .nil)))) (List.Sublist.refl _) rfl (fun i hi => ?_)
 obtain ⟨hi1, hi2⟩ := hi
 refine Z ?_
 refine At.condD (.t rfl) (fun c1 => ?_) (fun c1 => ?_)
 ·
  refine Z ?_
  refine At.condD (.t rfl) (fun c2 => ?_) (fun c2 => ?_)
  ·
   refine W ?_
   refine At.callVR rfl rfl rfl (.k rfl .nil) (.nil) (fun hg => r_Val) .all ?_
   refine W ?_
   refine At.callVR rfl rfl rfl (.k rfl .nil) (.nil) (fun hg => r_Writer) .all ?_
   refine Z ?_
   refine eA rfl (R.build bt_134 (.k rfl (.k rfl (.k rfl .nil))) (.cons rfl (.cons rfl (.cons rfl .nil))) rfl) ?_
   refine At.stAll (vs := [.int .i64 0, .bool (decide (0 ≤ (gE l (i : Int)).data % 2097152 - 1)), .int .i64 (max 0 ((gE l (i : Int)).data % 2097152 - 1)), .int .i64 ((gE l (i : Int)).data / 2097152), .int .i64 0, .slice none 0 0]) rfl rfl sz_134 (.t rfl) (.t rfl) rfl rfl rfl (.n U0) ⟨.all, ?_⟩
   refine W ?_
   exact At.final rfl (.a (vs := [_, _, _, _, _, _]) Tryz.underlying134 rfl sz_134 rfl (csS M1 ⟨rfl, rfl, rfl, rfl, rfl, rfl, trivial⟩)) (List.nil_sublist _) (⟨by (rw [foundD_yes (by omega) c2 hi2]; rfl), rfl, rfl⟩)
  ·
   refine W ?_
   exact At.again1 (i + 1) ⟨by omega, fun j hj => (by rcases Nat.lt_succ_iff_lt_or_eq.1 hj with h | h; exact hi2 j h; subst h; exact c2)⟩ (by omega) (.cons rfl (.cons rfl (.cons rfl (.cons rfl .nil)))) (List.Sublist.refl _) rfl
 ·
  refine W ?_
  refine eA rfl (R.build bt_134 (.kc .nil) (.cons rfl .nil) rfl) ?_
  refine At.stAll (vs := [.int .i64 0, .bool false, .int .i64 0, .int .i64 (-1), .int .i64 0, .slice none 0 0]) rfl rfl sz_134 (.t rfl) (.t rfl) rfl rfl rfl (.n U0) ⟨.all, ?_⟩
  refine W ?_
  exact At.final rfl (.a (vs := [_, _, _, _, _, _]) Tryz.underlying134 rfl sz_134 rfl (csS M1 ⟨rfl, rfl, rfl, rfl, rfl, rfl, trivial⟩)) (List.nil_sublist _) (⟨by (rw [foundD_no (by omega) hi2]; rfl), rfl, rfl⟩)
theorem dg_New {a b c d key : Int} : Fn Tryz.prog 101 [.agg #[.int .i64 a, .int .i64 b, .int .i64 c, .int .i64 d], .int .i64 key] ([]) ([]) (fun v N H => ∃ bg bw, v = .pointer (some ⟨bg, 0, none⟩) ∧ N = [dgB bg a b c d key bw none false, dwB bw (⟨a, b, c, d, key, 1, 0, 0, 0, 0⟩ : Dw)] ∧ H = []) := by
 refine Fn.enter Tryz.func101 (by kernel_rfl) rfl (n := 12) rfl rfl (fun w => ?_)
 refine W ?_
 refine At.box rfl rfl rfl (.t rfl) (fun b1 hb1 => ⟨.all, ?_⟩)
 refine W ?_
 refine At.drawK [tt 0, tt 1, tt 2, tt 3, ff 4, tt 5, ff 6, tt 7] (by kernel_rfl) (by kernel_rfl) ?_
 refine W ?_
 refine cP rfl rfl rfl (.k rfl (.k rfl .nil)) rfl (dw_New (a := a) (b := b) (c := c) (d := d) (key := key)) (fun _ h => nomatch h) (fun v N1 H1 hR => ?_); obtain ⟨bw, rfl, rfl, rfl⟩ := hR; refine ⟨rfl, kz, ?_⟩
 refine sC rfl kz (R.build bt_156 (.k rfl (.k rfl (.k rfl .nil))) (.cons rfl (.cons rfl (.cons rfl .nil))) rfl) ?_
 refine At.box rfl rfl rfl (.t rfl) (fun b2 hb2 => ⟨kz, ?_⟩)
 refine W ?_
 exact At.final (N' := [dgB b2 a b c d key bw none false, dwB bw (⟨a, b, c, d, key, 1, 0, 0, 0, 0⟩ : Dw)]) rfl (.t rfl) sl (⟨b2, bw, rfl, rfl, rfl⟩)
theorem dg_StepW {bg bw ba n : Nat} {wv : Value} {a b c d key : Int} {x : Dw} {r : Rr} (hx : x.ok) (hn : r.w.length = n) (hN : n ≤ 1000000) (hf : r.few) (hw : r.mid 1152921504606846976) (hg : ¬ (x.step r).1.line = 0) : FnX Tryz.prog 104 [.pointer (some ⟨bg, 0, none⟩), .pointer (some ⟨ba, 0, none⟩)] ([]) ([dgB bg a b c d key bw none false, dwB bw x, raB ba wv r, raW wv n r]) (fun v N => v = .bool false ∧ N = [dgB bg a b c d key bw none false, dwB bw (x.step r).1, raB ba wv (x.step r).2, raW wv n (x.step r).2]) := by
 refine FnX.enter Tryz.func104 (by kernel_rfl) rfl (n := 59) rfl rfl (fun w df hds how => ?_)
 refine W ?_
 refine eA rfl (R.neqNilP Tryz.underlying52 (.t rfl)) ?_
 refine W ?_
 refine cM rfl rfl rfl (.k rfl (.k rfl .nil)) rfl (.n (.skip (.take (.take (.take .nil))))) .nil (dw_Step (x := x) (r := r) hx hn hN hf hw) keysDw .nil ⟨.all, ?_⟩
 refine W ?_
 refine At.condD (.t rfl) (fun c3 => ?_) (fun c3 => ?_)
 ·
  exact absurd (by simpa using c3) hg
 ·
  refine W ?_
  exact At.finalX (N' := [dgB bg a b c d key bw none false, dwB bw (x.step r).1, raB ba wv (x.step r).2, raW wv n (x.step r).2]) hds how rfl (.t rfl) (List.Sublist.refl _) (⟨rfl, rfl⟩)
theorem dg_StepE {bg bw ba n : Nat} {wv : Value} {a b c d key : Int} {x : Dw} {r : Rr} (hx : x.ok) (hn : r.w.length = n) (hN : n ≤ 1000000) (hf : r.few) (hw : r.mid 1152921504606846976) (hg : (x.step r).1.line = 0) : FnX Tryz.prog 104 [.pointer (some ⟨bg, 0, none⟩), .pointer (some ⟨ba, 0, none⟩)] ([]) ([dgB bg a b c d key bw none false, dwB bw x, raB ba wv r, raW wv n r]) (fun v N => ∃ bl, v = .bool false ∧ N = [dgB bg a b c d key bw (some bl) false, dwB bw (x.step r).1, dlB bl (.slice none 0 0) (⟨a, b, c, d, (x.step r).1.at_, key, key, 1073741824, 1, 0, 0, 0, 0, 0, []⟩ : Dl), rowE iK 43 (.slice none 0 0) [], raB ba wv (x.step r).2, raW wv n (x.step r).2]) := by
 refine FnX.enter Tryz.func104 (by kernel_rfl) rfl (n := 59) rfl rfl (fun w df hds how => ?_)
 refine W ?_
 refine eA rfl (R.neqNilP Tryz.underlying52 (.t rfl)) ?_
 refine W ?_
 refine cM rfl rfl rfl (.k rfl (.k rfl .nil)) rfl (.n (.skip (.take (.take (.take .nil))))) .nil (dw_Step (x := x) (r := r) hx hn hN hf hw) keysDw .nil ⟨.all, ?_⟩
 refine W ?_
 refine At.condD (.t rfl) (fun c3 => ?_) (fun c3 => ?_)
 ·
  refine At.drawM ([dgB bg a b c d key bw none false, dwB bw (x.step r).1]) ([]) [tt 0, tt 1, tt 2, tt 3, tt 5, tt 6, tt 7, tt 12, tt 13, tt 14, tt 16, tt 17, tt 18] [tt 4, tt 8, tt 9, tt 10, tt 11, tt 15, tt 19, ff 20] [tt 21, tt 22, ff 23] (keepOf sl) (fun _ h => nomatch h) (by kernel_rfl) (by kernel_rfl) ?_
  refine V ?_
  refine At.stage kz ?_
  refine W ?_
  refine cP rfl rfl rfl (.k rfl (.k rfl (.k rfl (.k rfl (.kc .nil))))) rfl (dl_New (a := a) (b := b) (c := c) (d := d) (chunk := (x.step r).1.at_) (lo := key) (hi := key)) (fun _ h => nomatch h) (fun v N1 H1 hR => ?_); obtain ⟨bl, rfl, rfl, rfl⟩ := hR; refine ⟨rfl, kz, ?_⟩
  refine At.stage Cl.none ?_
  refine W ?_
  refine At.st1 rfl rfl sz_52 (.t rfl) (.t rfl) rfl rfl (.n U2) ⟨Cl.none, ?_⟩
  refine W ?_
  refine At.perm (N' := [dgB bg a b c d key bw (some bl) false, dwB bw (x.step r).1, dlB bl (.slice none 0 0) (⟨a, b, c, d, (x.step r).1.at_, key, key, 1073741824, 1, 0, 0, 0, 0, 0, []⟩ : Dl), rowE iK 43 (.slice none 0 0) [], raB ba wv (x.step r).2, raW wv n (x.step r).2]) (List.perm_append_comm (l₁ := [_, _]) (l₂ := [_, _]) |>.append_right [_, _]) ?_
  exact At.finalX (N' := [dgB bg a b c d key bw (some bl) false, dwB bw (x.step r).1, dlB bl (.slice none 0 0) (⟨a, b, c, d, (x.step r).1.at_, key, key, 1073741824, 1, 0, 0, 0, 0, 0, []⟩ : Dl), rowE iK 43 (.slice none 0 0) [], raB ba wv (x.step r).2, raW wv n (x.step r).2]) hds how rfl (.t rfl) (List.Sublist.refl _) (⟨bl, rfl, rfl⟩)
 ·
  exact absurd hg (by simpa using c3)
theorem dg_StepL {bg bw bl ba n : Nat} {wv Lv : Value} {a b c d key : Int} {y : Dl} {u : Dw} {r : Rr} (hx : y.ok) (hL : y.l.length ≤ 10000) (hn : r.w.length = n) (hN : n ≤ 1000000) (hf : r.few) (hw : r.mid 1152921504606846976) : FnX Tryz.prog 104 [.pointer (some ⟨bg, 0, none⟩), .pointer (some ⟨ba, 0, none⟩)] ([]) ([dgB bg a b c d key bw (some bl) false, dwB bw u, dlB bl Lv y, rowE iK 43 Lv y.l, raB ba wv r, raW wv n r]) (fun v N => ∃ Lv2, v = .bool (decide ((y.step r).1.line = 0)) ∧ N = [dgB bg a b c d key bw (some bl) (decide ((y.step r).1.line = 0)), dwB bw u, dlB bl Lv2 (y.step r).1, rowE iK 43 Lv2 (y.step r).1.l, raB ba wv (y.step r).2, raW wv n (y.step r).2]) := by
 refine FnX.enter Tryz.func104 (by kernel_rfl) rfl (n := 59) rfl rfl (fun w df hds how => ?_)
 refine W ?_
 refine eA rfl (R.neqNilP Tryz.underlying52 (.t rfl)) ?_
 refine W ?_
 refine cX rfl rfl rfl (.k rfl (.k rfl .nil)) rfl (.skip (.skip .all)) .nil (dl_Step (x := y) (r := r) hx hL hn hN hf hw) Aprt.nil (fun v B hR => ⟨.all, ?_⟩); obtain ⟨Lv2, rfl, rfl⟩ := hR; refine At.perm (N' := [dgB bg a b c d key bw (some bl) false, dwB bw u, dlB bl Lv2 (y.step r).1, rowE iK 43 Lv2 (y.step r).1.l, raB ba wv (y.step r).2, raW wv n (y.step r).2]) (List.perm_append_comm (l₁ := [_, _, _, _]) (l₂ := [_, _])) ?_
 refine W ?_
 refine At.st1 rfl rfl sz_4 (.t rfl) (.t rfl) rfl rfl (.n U0) ⟨.all, ?_⟩
 refine W ?_
 exact At.finalX (N' := [dgB bg a b c d key bw (some bl) (decide ((y.step r).1.line = 0)), dwB bw u, dlB bl Lv2 (y.step r).1, rowE iK 43 Lv2 (y.step r).1.l, raB ba wv (y.step r).2, raW wv n (y.step r).2]) hds how rfl (.t rfl) (List.Sublist.refl _) (⟨Lv2, rfl, rfl⟩)
theorem dg_StepO {bg bw ba n : Nat} {wv lv : Value} {a b c d key : Int} {ll : Option Nat} {r : Rr} : Fn Tryz.prog 104 [.pointer (some ⟨bg, 0, none⟩), .pointer (some ⟨ba, 0, none⟩)] ([]) ([dgB bg a b c d key bw ll true]) (IsM (.bool true) [dgB bg a b c d key bw ll true]) := by
 refine Fn.enter Tryz.func104 (by kernel_rfl) rfl (n := 59) rfl rfl (fun w => ?_)
 refine W ?_
 exact fT rfl (.t rfl) (⟨rfl, rfl, rfl⟩)
theorem dg_Answer1 {bg bw bl : Nat} {Lv : Value} {a b c d key : Int} {y : Dl} (hL : y.l.length ≤ 1000000) : Fn Tryz.prog 105 [.pointer (some ⟨bg, 0, none⟩)] ([dgB bg a b c d key bw (some bl) true, dlB bl Lv y, rdE iK Lv y.l]) ([]) (IsV (.agg (anV (foundD y.l key) (.slice none 0 0)))) := by
 refine Fn.enter Tryz.func105 (by kernel_rfl) rfl (n := 21) rfl rfl (fun w => ?_)
 refine W ?_
 refine At.alloc rfl rfl rfl ze_134 (fun b1 hb1 => ⟨.all, ?_⟩)
 refine Z ?_
 refine At.drawM ([dgB bg a b c d key bw (some bl) true, dlB bl Lv y, rdE iK Lv y.l]) ([]) [tt 0, tt 1, tt 2, tt 7, tt 8, tt 9] [tt 3, tt 4, tt 5, tt 6, tt 10, ff 11] [ff 12] (keepOf sl) (fun _ h => nomatch h) (by kernel_rfl) (by kernel_rfl) ?_
 refine V ?_
 refine At.stage kz ?_
 refine W ?_
 refine At.callVR rfl rfl rfl (.k rfl (.k rfl .nil)) (by (exact .cons (rS M2) .nil)) (fun hg => dg_Found (v := Lv) (l := y.l) (key := key) hL) kz ?_
 refine At.stage Cl.none ?_
 refine At.stAll (vs := (anV (foundD y.l key) (.slice none 0 0)).toList) rfl rfl sz_134 (.t rfl) (.t rfl) rfl rfl rfl (.n U0) ⟨Cl.none, ?_⟩
 refine W ?_
 exact At.final rfl (.a (vs := [_, _, _, _, _, _]) Tryz.underlying134 rfl sz_134 rfl (csS M3 ⟨rfl, rfl, rfl, rfl, rfl, rfl, trivial⟩)) (List.nil_sublist _) (⟨rfl, rfl, rfl⟩)
theorem dg_Answer0 {bg bw : Nat} {a b c d key : Int} {ll : Option Nat} : Fn Tryz.prog 105 [.pointer (some ⟨bg, 0, none⟩)] ([dgB bg a b c d key bw ll false]) ([]) (IsV (.agg (anV ⟨0, false, 0, 0, 0⟩ (.slice none 0 0)))) := by
 refine Fn.enter Tryz.func105 (by kernel_rfl) rfl (n := 21) rfl rfl (fun w => ?_)
 refine W ?_
 refine At.alloc rfl rfl rfl ze_134 (fun b1 hb1 => ⟨.all, ?_⟩)
 refine Z ?_
 refine eA rfl (R.build bt_134 .nil .nil rfl) ?_
 refine At.stAll (vs := [.int .i64 0, .bool false, .int .i64 0, .int .i64 0, .int .i64 0, .slice none 0 0]) rfl rfl sz_134 (.t rfl) (.t rfl) rfl rfl rfl (.n U0) ⟨.all, ?_⟩
 refine W ?_
 exact At.final rfl (.a (vs := [_, _, _, _, _, _]) Tryz.underlying134 rfl sz_134 rfl (csS M1 ⟨rfl, rfl, rfl, rfl, rfl, rfl, trivial⟩)) (List.nil_sublist _) (⟨rfl, rfl, rfl⟩)
end Go.Proofs.YtbolanigdkgbdaaGreat
