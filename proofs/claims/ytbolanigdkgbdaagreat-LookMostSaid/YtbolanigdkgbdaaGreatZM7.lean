/- Part of the proof: lemmas for what the last file states; no condition. -/
import Derived.Test.YtbolanigdkgbdaaGreatZM6
set_option linter.unusedSectionVars false
namespace Go.Proofs.YtbolanigdkgbdaaGreat
open Go Go.RowKit
set_option maxRecDepth 10000
set_option linter.unusedVariables false
set_option linter.unnecessarySimpa false
set_option maxHeartbeats 1000000
theorem bt_160 : buildTab Tryz.prog 160 = some (#[.int .i64 0, .int .i64 0, .int .i64 0, .int .i64 0, .int .i64 0, .int .i64 0, .int .i64 0, .int .i64 0, .pointer none, .pointer none, .pointer none, .int .i64 0, .int .i64 0, .int .i64 0, .slice none 0 0], [(0, 4), (4, 1), (5, 1), (6, 1), (7, 1), (8, 1), (9, 1), (10, 1), (11, 1), (12, 1), (13, 1), (14, 1)]) := by kernel_rfl
theorem fo_160_0 : fieldOff? Tryz.prog 160 0 = some 0 := by kernel_rfl
theorem fo_160_1 : fieldOff? Tryz.prog 160 1 = some 4 := by kernel_rfl
theorem fo_160_10 : fieldOff? Tryz.prog 160 10 = some 13 := by kernel_rfl
theorem fo_160_2 : fieldOff? Tryz.prog 160 2 = some 5 := by kernel_rfl
theorem fo_160_3 : fieldOff? Tryz.prog 160 3 = some 6 := by kernel_rfl
theorem fo_160_4 : fieldOff? Tryz.prog 160 4 = some 7 := by kernel_rfl
theorem fo_160_5 : fieldOff? Tryz.prog 160 5 = some 8 := by kernel_rfl
theorem fo_160_6 : fieldOff? Tryz.prog 160 6 = some 9 := by kernel_rfl
theorem fo_160_8 : fieldOff? Tryz.prog 160 8 = some 11 := by kernel_rfl
theorem fo_160_9 : fieldOff? Tryz.prog 160 9 = some 12 := by kernel_rfl
theorem sz_141 : (Tryz.prog.info? 141).map (·.size) = some 1 := by kernel_rfl
theorem keysDc {b ba n : Nat} {wv : Value} {k k' : Dc} {x y x' y' : Rr} : keys [dcB b k, raB ba wv x, raW wv n y] = keys [dcB b k', raB ba wv x', raW wv n y'] := rfl
theorem Aprt.two [Df] {w0 : World} {S N H A : Hp} {b : Nat} {o : Obj} {v : Value} {E : TypeId} {sz m : Nat} {xs : List Value} (h : (A ++ [Ent.blk b o, Ent.row v E sz m xs]).Sublist (N ++ H)) : Aprt w0 S N H [.blk b o, .rd v sz m xs] A := fun w hw k hk hA => by
  have h1 : (A ++ [Ent.row v E sz m xs]).Sublist (N ++ H) := (List.Sublist.append_left (List.sublist_cons_self _ _) A).trans h
  have h2 : (A ++ [Ent.blk b o]).Sublist (N ++ H) := (List.Sublist.append_left (by exact List.Sublist.cons_cons _ (List.nil_sublist _)) A).trans h
  have hk' : k ∈ keys [Ent.blk b o] ∨ k ∈ keys [Ent.rd v sz m xs] := by
    rw [show [Ent.blk b o, Ent.rd v sz m xs] = [Ent.blk b o] ++ [Ent.rd v sz m xs] from rfl, keys_append, List.mem_append] at hk; exact hk
  rcases hk' with hk' | hk'
  · exact Aprt.sub' h2 w hw k hk' hA
  · exact Aprt.row (.inl h1) w hw k hk' hA
theorem ds_New {a b c d t seq lo hi : Int} : Fn Tryz.prog 102 [.agg #[.int .i64 a, .int .i64 b, .int .i64 c, .int .i64 d], .int .i64 t, .int .i64 seq, .int .i64 lo, .int .i64 hi] ([]) ([]) (fun v N H => ∃ bs kp, v = .pointer (some ⟨bs, 0, none⟩) ∧ N = [dsB bs kp none none (.slice none 0 0) (⟨a, b, c, d, t, seq, lo, hi, 10, 0, 0⟩ : Ds), dcB kp (⟨a, b, c, d, t, seq, 1, 0, 0, 0⟩ : Dc)] ∧ H = []) := by
 refine Fn.enter Tryz.func102 (by kernel_rfl) rfl (n := 22) rfl rfl (fun w => ?_)
 refine W ?_
 refine At.box rfl rfl rfl (.t rfl) (fun b1 hb1 => ⟨.all, ?_⟩)
 refine W ?_
 refine At.drawK [tt 0, tt 1, tt 2, tt 3, tt 4, tt 5, tt 6, tt 7, ff 8, tt 9, ff 10, tt 11] (by kernel_rfl) (by kernel_rfl) ?_
 refine W ?_
 refine cP rfl rfl rfl (.k rfl (.k rfl (.k rfl .nil))) rfl (dc_New (a := a) (b := b) (c := c) (d := d) (t := t) (seq := seq)) (fun _ h => nomatch h) (fun v N1 H1 hR => ?_); obtain ⟨kp, rfl, rfl, rfl⟩ := hR; refine ⟨rfl, kz, ?_⟩
 refine sC rfl kz (R.build bt_160 (.k rfl (.k rfl (.k rfl (.k rfl (.k rfl (.k rfl (.kc .nil))))))) (.cons rfl (.cons rfl (.cons rfl (.cons rfl (.cons rfl (.cons rfl (.cons rfl .nil))))))) rfl) ?_
 refine At.box rfl rfl rfl (.t rfl) (fun b2 hb2 => ⟨kz, ?_⟩)
 refine W ?_
 exact At.final (N' := [dsB b2 kp none none (.slice none 0 0) (⟨a, b, c, d, t, seq, lo, hi, 10, 0, 0⟩ : Ds), dcB kp (⟨a, b, c, d, t, seq, 1, 0, 0, 0⟩ : Dc)]) rfl (.t rfl) sl (⟨b2, kp, rfl, rfl, rfl⟩)
theorem ds_chunk {b kp : Nat} {wp lp : Option Nat} {Iv : Value} {x : Ds} {k : Dc} {at_ : Int} : FnX Tryz.prog 124 [.pointer (some ⟨b, 0, none⟩), .int .i64 at_] ([dcB kp k]) ([dsB b kp wp lp Iv x]) (fun v N => ∃ bl, v = .tuple #[] ∧ N = [dsB b kp wp (some bl) Iv (⟨x.th, x.cap, x.wd, x.ver, x.t, x.seq, x.lo, x.hi, 1, at_, x.n⟩ : Ds), dlB bl (.slice none 0 0) (⟨x.th, x.cap, x.wd, x.ver, at_, x.lo, x.hi, k.version, 1, 0, 0, 0, 0, 0, []⟩ : Dl), rowE iK 43 (.slice none 0 0) []]) := by
 refine FnX.enter Tryz.func124 (by kernel_rfl) rfl (n := 35) rfl rfl (fun w df hds how => ?_)
 let F2 : Nat → Fr := fun bl => [(4, pt b 0), (5, pt b 0), (6, pt b 0), (7, iv at_), (10, pt b 0), (11, true, .agg #[.int .i64 x.th, .int .i64 x.cap, .int .i64 x.wd, .int .i64 x.ver]), (12, iv at_), (15, pt b 6), (16, iv x.lo), (19, pt b 7), (20, iv x.hi), (23, pt b 8), (24, pt kp 0), (27, iv k.version), (28, pt bl 0), (30, pt b 12), (32, pt b 11), (34, pt b 10), (0, pt b 0)]
 refine At.dag [tt 0, tt 1, tt 2, tt 3, tt 4, tt 5, tt 6, tt 8, tt 9, tt 10, tt 11, tt 13, tt 14, tt 15, tt 17, tt 18, tt 19] 17 (mF 34 [7, 12, 16, 20, 21, 22, 23, 24, 25, 26, 27, 28, 29, 30, 31, 32, 33]) ([dcB kp k]) (keepOf sl) (by kernel_rfl) (by kernel_rfl) (fun G hnode hdone => ?_)
 have g0 : ∀ (bl : Nat), At w 35 [dcB kp k] (fs (F2 bl) 524287) ([dlB bl (.slice none 0 0) (⟨x.th, x.cap, x.wd, x.ver, at_, x.lo, x.hi, k.version, 1, 0, 0, 0, 0, 0, []⟩ : Dl), rowE iK 43 (.slice none 0 0) [], dsB b kp wp (some bl) Iv (⟨x.th, x.cap, x.wd, x.ver, x.t, x.seq, x.lo, x.hi, 1, at_, x.n⟩ : Ds)]) ([]) (G 0 (mF 34 [])) := fun bl => by
  refine hdone _ _ _ (by kernel_rfl) ?_
  refine At.perm (N' := [dsB b kp wp (some bl) Iv (⟨x.th, x.cap, x.wd, x.ver, x.t, x.seq, x.lo, x.hi, 1, at_, x.n⟩ : Ds), dlB bl (.slice none 0 0) (⟨x.th, x.cap, x.wd, x.ver, at_, x.lo, x.hi, k.version, 1, 0, 0, 0, 0, 0, []⟩ : Dl), rowE iK 43 (.slice none 0 0) []]) (List.perm_append_comm (l₁ := [_, _]) (l₂ := [_])) ?_
  exact At.finalX0 (N' := [dsB b kp wp (some bl) Iv (⟨x.th, x.cap, x.wd, x.ver, x.t, x.seq, x.lo, x.hi, 1, at_, x.n⟩ : Ds), dlB bl (.slice none 0 0) (⟨x.th, x.cap, x.wd, x.ver, at_, x.lo, x.hi, k.version, 1, 0, 0, 0, 0, 0, []⟩ : Dl), rowE iK 43 (.slice none 0 0) []]) hds how rfl (List.Sublist.refl _) (⟨bl, rfl, rfl⟩) _ (.inr rfl)
 have g1 : ∀ (bl : Nat), At w 35 [dcB kp k] (fs (F2 bl) 524287) ([dlB bl (.slice none 0 0) (⟨x.th, x.cap, x.wd, x.ver, at_, x.lo, x.hi, k.version, 1, 0, 0, 0, 0, 0, []⟩ : Dl), rowE iK 43 (.slice none 0 0) [], dsB b kp wp lp Iv (⟨x.th, x.cap, x.wd, x.ver, x.t, x.seq, x.lo, x.hi, 1, at_, x.n⟩ : Ds)]) ([]) (G 1 (mF 34 [33])) := fun bl => by
  refine hnode _ _ _ _ [(33, [], 0, (mF 34 []))] (by kernel_rfl) kz ?_
  ·
   refine At.st1 rfl rfl sz_52 (.t rfl) (.t rfl) rfl rfl (.n U2) ⟨kz, ?_⟩
   refine W ?_
   exact wk (g0 bl)
 have g2 : ∀ (bl : Nat), At w 35 [dcB kp k] (fs (F2 bl) 393215) ([dlB bl (.slice none 0 0) (⟨x.th, x.cap, x.wd, x.ver, at_, x.lo, x.hi, k.version, 1, 0, 0, 0, 0, 0, []⟩ : Dl), rowE iK 43 (.slice none 0 0) [], dsB b kp wp lp Iv (⟨x.th, x.cap, x.wd, x.ver, x.t, x.seq, x.lo, x.hi, x.line, at_, x.n⟩ : Ds)]) ([]) (G 4 (mF 34 [30, 31, 32, 33])) := fun bl => by
  refine hnode _ _ _ _ [(30, [tt 31, tt 32], 1, (mF 34 [33]))] (by kernel_rfl) kz ?_
  ·
   refine At.st1 rfl rfl sz_3 (.t rfl) .c rfl rfl (.n U2) ⟨kz, ?_⟩
   refine W ?_
   exact wk (g1 bl)
 have g3 : ∀ (bl : Nat), At w 35 [dcB kp k] (fs (F2 bl) 327679) ([dlB bl (.slice none 0 0) (⟨x.th, x.cap, x.wd, x.ver, at_, x.lo, x.hi, k.version, 1, 0, 0, 0, 0, 0, []⟩ : Dl), rowE iK 43 (.slice none 0 0) [], dsB b kp wp lp Iv x]) ([]) (G 7 (mF 34 [27, 28, 29, 30, 31, 32, 33])) := fun bl => by
  refine hnode _ _ _ _ [(27, [tt 28, tt 29], 4, (mF 34 [30, 31, 32, 33]))] (by kernel_rfl) kz ?_
  ·
   refine At.st1 rfl rfl sz_3 (.t rfl) (.t rfl) rfl rfl (.n U2) ⟨kz, ?_⟩
   refine W ?_
   exact wk (g2 bl)
 have g4 : ∀ (_ : True), At w 35 [dcB kp k] (fs (F2 0) 278527) ([dsB b kp wp lp Iv x]) ([]) (G 10 (mF 34 [24, 25, 26, 27, 28, 29, 30, 31, 32, 33])) := fun _ => by
  refine hnode _ _ _ _ [(24, [tt 25, tt 26], 7, (mF 34 [27, 28, 29, 30, 31, 32, 33]))] (by kernel_rfl) kz ?_
  ·
   refine cP rfl rfl rfl (.k rfl (.k rfl (.k rfl (.k rfl (.k rfl .nil))))) rfl (dl_New (a := x.th) (b := x.cap) (c := x.wd) (d := x.ver) (chunk := at_) (lo := x.lo) (hi := x.hi) (most := k.version)) (fun _ h => nomatch h) (fun v N1 H1 hR => ?_); obtain ⟨bl, rfl, rfl, rfl⟩ := hR; refine ⟨rfl, kz, ?_⟩
   refine W ?_
   exact wk (g3 bl)
 have g5 : ∀ (_ : True), At w 35 [dcB kp k] (fs (F2 0) 277503) ([dsB b kp wp lp Iv x]) ([]) (G 11 (mF 34 [16, 24, 25, 26, 27, 28, 29, 30, 31, 32, 33])) := fun _ => by
  refine hnode _ _ _ _ [(16, [], 10, (mF 34 [24, 25, 26, 27, 28, 29, 30, 31, 32, 33]))] (by kernel_rfl) kz ?_
  ·
   refine WD ?_
   exact wk (g4 trivial)
 have g6 : ∀ (_ : True), At w 35 [dcB kp k] (fs (F2 0) 278271) ([dsB b kp wp lp Iv x]) ([]) (G 11 (mF 34 [12, 24, 25, 26, 27, 28, 29, 30, 31, 32, 33])) := fun _ => by
  refine hnode _ _ _ _ [(12, [], 10, (mF 34 [24, 25, 26, 27, 28, 29, 30, 31, 32, 33]))] (by kernel_rfl) kz ?_
  ·
   refine WD ?_
   exact wk (g4 trivial)
 have g7 : ∀ (_ : True), At w 35 [dcB kp k] (fs (F2 0) 278495) ([dsB b kp wp lp Iv x]) ([]) (G 11 (mF 34 [7, 24, 25, 26, 27, 28, 29, 30, 31, 32, 33])) := fun _ => by
  refine hnode _ _ _ _ [(7, [], 10, (mF 34 [24, 25, 26, 27, 28, 29, 30, 31, 32, 33]))] (by kernel_rfl) kz ?_
  ·
   refine WD ?_
   exact wk (g4 trivial)
 have g8 : ∀ (_ : True), At w 35 [dcB kp k] (fs (F2 0) 277247) ([dsB b kp wp lp Iv x]) ([]) (G 12 (mF 34 [12, 16, 24, 25, 26, 27, 28, 29, 30, 31, 32, 33])) := fun _ => by
  refine hnode _ _ _ _ [(12, [], 11, (mF 34 [16, 24, 25, 26, 27, 28, 29, 30, 31, 32, 33])), (16, [], 11, (mF 34 [12, 24, 25, 26, 27, 28, 29, 30, 31, 32, 33]))] (by kernel_rfl) kz ?_
  refine ⟨?_, ?_⟩
  ·
   refine WD ?_
   exact wk (g5 trivial)
  ·
   refine WD ?_
   exact wk (g6 trivial)
 have g9 : ∀ (_ : True), At w 35 [dcB kp k] (fs (F2 0) 277471) ([dsB b kp wp lp Iv x]) ([]) (G 12 (mF 34 [7, 16, 24, 25, 26, 27, 28, 29, 30, 31, 32, 33])) := fun _ => by
  refine hnode _ _ _ _ [(7, [], 11, (mF 34 [16, 24, 25, 26, 27, 28, 29, 30, 31, 32, 33])), (16, [], 11, (mF 34 [7, 24, 25, 26, 27, 28, 29, 30, 31, 32, 33]))] (by kernel_rfl) kz ?_
  refine ⟨?_, ?_⟩
  ·
   refine WD ?_
   exact wk (g5 trivial)
  ·
   refine WD ?_
   exact wk (g7 trivial)
 have g10 : ∀ (_ : True), At w 35 [dcB kp k] (fs (F2 0) 278239) ([dsB b kp wp lp Iv x]) ([]) (G 12 (mF 34 [7, 12, 24, 25, 26, 27, 28, 29, 30, 31, 32, 33])) := fun _ => by
  refine hnode _ _ _ _ [(7, [], 11, (mF 34 [12, 24, 25, 26, 27, 28, 29, 30, 31, 32, 33])), (12, [], 11, (mF 34 [7, 24, 25, 26, 27, 28, 29, 30, 31, 32, 33]))] (by kernel_rfl) kz ?_
  refine ⟨?_, ?_⟩
  ·
   refine WD ?_
   exact wk (g6 trivial)
  ·
   refine WD ?_
   exact wk (g7 trivial)
 have g11 : ∀ (_ : True), At w 35 [dcB kp k] (fs (F2 0) 277215) ([dsB b kp wp lp Iv x]) ([]) (G 13 (mF 34 [7, 12, 16, 24, 25, 26, 27, 28, 29, 30, 31, 32, 33])) := fun _ => by
  refine hnode _ _ _ _ [(7, [], 12, (mF 34 [12, 16, 24, 25, 26, 27, 28, 29, 30, 31, 32, 33])), (12, [], 12, (mF 34 [7, 16, 24, 25, 26, 27, 28, 29, 30, 31, 32, 33])), (16, [], 12, (mF 34 [7, 12, 24, 25, 26, 27, 28, 29, 30, 31, 32, 33]))] (by kernel_rfl) kz ?_
  refine ⟨?_, ?_, ?_⟩
  ·
   refine WD ?_
   exact wk (g8 trivial)
  ·
   refine WD ?_
   exact wk (g9 trivial)
  ·
   refine WD ?_
   exact wk (g10 trivial)
 have g12 : ∀ (_ : True), At w 35 [dcB kp k] (fs (F2 0) 266239) ([dsB b kp wp lp Iv x]) ([]) (G 14 (mF 34 [20, 21, 22, 23, 24, 25, 26, 27, 28, 29, 30, 31, 32, 33])) := fun _ => by
  refine hnode _ _ _ _ [(20, [tt 21, tt 22, tt 23], 10, (mF 34 [24, 25, 26, 27, 28, 29, 30, 31, 32, 33]))] (by kernel_rfl) kz ?_
  ·
   refine WD ?_
   exact wk (g4 trivial)
 have g13 : ∀ (_ : True), At w 35 [dcB kp k] (fs (F2 0) 265215) ([dsB b kp wp lp Iv x]) ([]) (G 15 (mF 34 [16, 20, 21, 22, 23, 24, 25, 26, 27, 28, 29, 30, 31, 32, 33])) := fun _ => by
  refine hnode _ _ _ _ [(16, [], 14, (mF 34 [20, 21, 22, 23, 24, 25, 26, 27, 28, 29, 30, 31, 32, 33])), (20, [tt 21, tt 22, tt 23], 11, (mF 34 [16, 24, 25, 26, 27, 28, 29, 30, 31, 32, 33]))] (by kernel_rfl) kz ?_
  refine ⟨?_, ?_⟩
  ·
   refine WD ?_
   exact wk (g12 trivial)
  ·
   refine WD ?_
   exact wk (g5 trivial)
 have g14 : ∀ (_ : True), At w 35 [dcB kp k] (fs (F2 0) 265983) ([dsB b kp wp lp Iv x]) ([]) (G 15 (mF 34 [12, 20, 21, 22, 23, 24, 25, 26, 27, 28, 29, 30, 31, 32, 33])) := fun _ => by
  refine hnode _ _ _ _ [(12, [], 14, (mF 34 [20, 21, 22, 23, 24, 25, 26, 27, 28, 29, 30, 31, 32, 33])), (20, [tt 21, tt 22, tt 23], 11, (mF 34 [12, 24, 25, 26, 27, 28, 29, 30, 31, 32, 33]))] (by kernel_rfl) kz ?_
  refine ⟨?_, ?_⟩
  ·
   refine WD ?_
   exact wk (g12 trivial)
  ·
   refine WD ?_
   exact wk (g6 trivial)
 have g15 : ∀ (_ : True), At w 35 [dcB kp k] (fs (F2 0) 266207) ([dsB b kp wp lp Iv x]) ([]) (G 15 (mF 34 [7, 20, 21, 22, 23, 24, 25, 26, 27, 28, 29, 30, 31, 32, 33])) := fun _ => by
  refine hnode _ _ _ _ [(7, [], 14, (mF 34 [20, 21, 22, 23, 24, 25, 26, 27, 28, 29, 30, 31, 32, 33])), (20, [tt 21, tt 22, tt 23], 11, (mF 34 [7, 24, 25, 26, 27, 28, 29, 30, 31, 32, 33]))] (by kernel_rfl) kz ?_
  refine ⟨?_, ?_⟩
  ·
   refine WD ?_
   exact wk (g12 trivial)
  ·
   refine WD ?_
   exact wk (g7 trivial)
 have g16 : ∀ (_ : True), At w 35 [dcB kp k] (fs (F2 0) 264959) ([dsB b kp wp lp Iv x]) ([]) (G 16 (mF 34 [12, 16, 20, 21, 22, 23, 24, 25, 26, 27, 28, 29, 30, 31, 32, 33])) := fun _ => by
  refine hnode _ _ _ _ [(12, [], 15, (mF 34 [16, 20, 21, 22, 23, 24, 25, 26, 27, 28, 29, 30, 31, 32, 33])), (16, [], 15, (mF 34 [12, 20, 21, 22, 23, 24, 25, 26, 27, 28, 29, 30, 31, 32, 33])), (20, [tt 21, tt 22, tt 23], 12, (mF 34 [12, 16, 24, 25, 26, 27, 28, 29, 30, 31, 32, 33]))] (by kernel_rfl) kz ?_
  refine ⟨?_, ?_, ?_⟩
  ·
   refine WD ?_
   exact wk (g13 trivial)
  ·
   refine WD ?_
   exact wk (g14 trivial)
  ·
   refine WD ?_
   exact wk (g8 trivial)
 have g17 : ∀ (_ : True), At w 35 [dcB kp k] (fs (F2 0) 265183) ([dsB b kp wp lp Iv x]) ([]) (G 16 (mF 34 [7, 16, 20, 21, 22, 23, 24, 25, 26, 27, 28, 29, 30, 31, 32, 33])) := fun _ => by
  refine hnode _ _ _ _ [(7, [], 15, (mF 34 [16, 20, 21, 22, 23, 24, 25, 26, 27, 28, 29, 30, 31, 32, 33])), (16, [], 15, (mF 34 [7, 20, 21, 22, 23, 24, 25, 26, 27, 28, 29, 30, 31, 32, 33])), (20, [tt 21, tt 22, tt 23], 12, (mF 34 [7, 16, 24, 25, 26, 27, 28, 29, 30, 31, 32, 33]))] (by kernel_rfl) kz ?_
  refine ⟨?_, ?_, ?_⟩
  ·
   refine WD ?_
   exact wk (g13 trivial)
  ·
   refine WD ?_
   exact wk (g15 trivial)
  ·
   refine WD ?_
   exact wk (g9 trivial)
 have g18 : ∀ (_ : True), At w 35 [dcB kp k] (fs (F2 0) 265951) ([dsB b kp wp lp Iv x]) ([]) (G 16 (mF 34 [7, 12, 20, 21, 22, 23, 24, 25, 26, 27, 28, 29, 30, 31, 32, 33])) := fun _ => by
  refine hnode _ _ _ _ [(7, [], 15, (mF 34 [12, 20, 21, 22, 23, 24, 25, 26, 27, 28, 29, 30, 31, 32, 33])), (12, [], 15, (mF 34 [7, 20, 21, 22, 23, 24, 25, 26, 27, 28, 29, 30, 31, 32, 33])), (20, [tt 21, tt 22, tt 23], 12, (mF 34 [7, 12, 24, 25, 26, 27, 28, 29, 30, 31, 32, 33]))] (by kernel_rfl) kz ?_
  refine ⟨?_, ?_, ?_⟩
  ·
   refine WD ?_
   exact wk (g14 trivial)
  ·
   refine WD ?_
   exact wk (g15 trivial)
  ·
   refine WD ?_
   exact wk (g10 trivial)
 have g19 : ∀ (_ : True), At w 35 [dcB kp k] (fs (F2 0) 264927) ([dsB b kp wp lp Iv x]) ([]) (G 17 (mF 34 [7, 12, 16, 20, 21, 22, 23, 24, 25, 26, 27, 28, 29, 30, 31, 32, 33])) := fun _ => by
  refine hnode _ _ _ _ [(7, [], 16, (mF 34 [12, 16, 20, 21, 22, 23, 24, 25, 26, 27, 28, 29, 30, 31, 32, 33])), (12, [], 16, (mF 34 [7, 16, 20, 21, 22, 23, 24, 25, 26, 27, 28, 29, 30, 31, 32, 33])), (16, [], 16, (mF 34 [7, 12, 20, 21, 22, 23, 24, 25, 26, 27, 28, 29, 30, 31, 32, 33])), (20, [tt 21, tt 22, tt 23], 13, (mF 34 [7, 12, 16, 24, 25, 26, 27, 28, 29, 30, 31, 32, 33]))] (by kernel_rfl) kz ?_
  refine ⟨?_, ?_, ?_, ?_⟩
  ·
   refine WD ?_
   exact wk (g16 trivial)
  ·
   refine WD ?_
   exact wk (g17 trivial)
  ·
   refine WD ?_
   exact wk (g18 trivial)
  ·
   refine WD ?_
   exact wk (g11 trivial)
 refine W ?_
 exact wk (g19 trivial)
theorem ds_Step0 {b ba kp : Nat} {wp lp : Option Nat} {Iv : Value} {x : Ds} (hl : x.line = 0) : FnX Tryz.prog 106 [.pointer (some ⟨b, 0, none⟩), .pointer (some ⟨ba, 0, none⟩)] ([]) ([dsB b kp wp lp Iv x]) (fun v N => v = .bool true ∧ N = [dsB b kp wp lp Iv x]) := by
 refine FnX.enter Tryz.func106 (by kernel_rfl) rfl (n := 154) rfl rfl (fun w df hds how => ?_)
 refine Y ?_
 exact At.finalX (N' := [dsB b kp wp lp Iv x]) hds how rfl (.t rfl) (List.Sublist.refl _) (⟨rfl, rfl⟩)
theorem ds_Step10n {b ba kp : Nat} {wp lp : Option Nat} {Iv : Value} {x : Ds} (hl : x.line = 10) (hc : x.hi < x.lo) : FnX Tryz.prog 106 [.pointer (some ⟨b, 0, none⟩), .pointer (some ⟨ba, 0, none⟩)] ([]) ([dsB b kp wp lp Iv x]) (fun v N => v = .bool true ∧ N = [dsB b kp wp lp Iv (⟨x.th, x.cap, x.wd, x.ver, x.t, x.seq, x.lo, x.hi, 0, x.at_, x.n⟩ : Ds)]) := by
 refine FnX.enter Tryz.func106 (by kernel_rfl) rfl (n := 154) rfl rfl (fun w df hds how => ?_)
 refine Y ?_
 refine At.drawK [tt 0, tt 1, tt 2, tt 3, tt 4, tt 5, tt 6, tt 7, tt 8] (by kernel_rfl) (by kernel_rfl) ?_
 refine W ?_
 refine sJ rfl (R.as (R.gtr (.t rfl) (.t rfl)) dT) ?_
 refine W ?_
 refine At.st1 rfl rfl sz_3 (.t rfl) .c rfl rfl (.n U0) ⟨.all, ?_⟩
 refine Y ?_
 exact At.finalX (N' := [.blk b (.cells _ 160)]) hds how rfl (.t rfl) (List.Sublist.refl _) (⟨rfl, rfl⟩)
theorem ds_Step10a {b ba n kp : Nat} {wv Iv : Value} {x : Ds} {k : Dc} {r : Rr} (hl : x.line = 10) (hc : ¬ x.hi < x.lo) (hk : k.ok) (hn : r.w.length = n) (hN : n ≤ 1000000) (hf : r.few) (hw : r.mid 1152921504606846976) (he : ¬ (k.step r).1.line = 0) : FnX Tryz.prog 106 [.pointer (some ⟨b, 0, none⟩), .pointer (some ⟨ba, 0, none⟩)] ([]) ([dsB b kp none none Iv x, dcB kp k, raB ba wv r, raW wv n r]) (fun v N => v = .bool false ∧ N = [dsB b kp none none Iv x, dcB kp (k.step r).1, raB ba wv (k.step r).2, raW wv n (k.step r).2]) := by
 refine FnX.enter Tryz.func106 (by kernel_rfl) rfl (n := 154) rfl rfl (fun w df hds how => ?_)
 refine Y ?_
 refine At.drawK [tt 0, tt 1, tt 2, tt 3, tt 4, tt 5, tt 6, tt 7, tt 8] (by kernel_rfl) (by kernel_rfl) ?_
 refine W ?_
 refine sJ rfl (R.as (R.gtr (.t rfl) (.t rfl)) dF) ?_
 refine W ?_
 refine cM rfl rfl rfl (.k rfl (.k rfl .nil)) rfl (.n (.skip (.take (.take (.take .nil))))) .nil (dc_Step (x := k) (r := r) hk hn hN hf hw) keysDc .nil ⟨.all, ?_⟩
 refine W ?_
 refine At.condD (.t rfl) (fun c3 => ?_) (fun c3 => ?_)
 ·
  exact absurd (by simpa using c3) he
 ·
  refine Y ?_
  exact At.finalX (N' := [dsB b kp none none Iv x, dcB kp (k.step r).1, raB ba wv (k.step r).2, raW wv n (k.step r).2]) hds how rfl (.t rfl) (List.Sublist.refl _) (⟨rfl, rfl⟩)
theorem ds_Step10b {b ba n kp : Nat} {wv Iv : Value} {x : Ds} {k : Dc} {r : Rr} (hl : x.line = 10) (hc : ¬ x.hi < x.lo) (hk : k.ok) (hn : r.w.length = n) (hN : n ≤ 1000000) (hf : r.few) (hw : r.mid 1152921504606846976) (he : (k.step r).1.line = 0) (hq : (k.step r).1.e = 0) : FnX Tryz.prog 106 [.pointer (some ⟨b, 0, none⟩), .pointer (some ⟨ba, 0, none⟩)] ([]) ([dsB b kp none none Iv x, dcB kp k, raB ba wv r, raW wv n r]) (fun v N => ∃ bw, v = .bool false ∧ N = [dwB bw (⟨x.th, x.cap, x.wd, x.ver, x.lo, 1, 0, 0, 0, 0⟩ : Dw), dsB b kp (some bw) none Iv (⟨x.th, x.cap, x.wd, x.ver, x.t, x.seq, x.lo, x.hi, 11, x.at_, x.n⟩ : Ds), dcB kp (k.step r).1, raB ba wv (k.step r).2, raW wv n (k.step r).2]) := by
 refine FnX.enter Tryz.func106 (by kernel_rfl) rfl (n := 154) rfl rfl (fun w df hds how => ?_)
 refine Y ?_
 refine At.drawK [tt 0, tt 1, tt 2, tt 3, tt 4, tt 5, tt 6, tt 7, tt 8] (by kernel_rfl) (by kernel_rfl) ?_
 refine W ?_
 refine sJ rfl (R.as (R.gtr (.t rfl) (.t rfl)) dF) ?_
 refine W ?_
 refine cM rfl rfl rfl (.k rfl (.k rfl .nil)) rfl (.n (.skip (.take (.take (.take .nil))))) .nil (dc_Step (x := k) (r := r) hk hn hN hf hw) keysDc .nil ⟨.all, ?_⟩
 refine W ?_
 refine At.condD (.t rfl) (fun c3 => ?_) (fun c3 => ?_)
 ·
  refine W ?_
  refine At.drawM ([dsB b kp none none Iv x]) ([]) [tt 0, tt 1, tt 2, tt 3, tt 4, tt 6, tt 7, tt 8] [tt 5, tt 9, ff 10] [tt 11, tt 12, ff 13, tt 14, tt 15, ff 16] (keepOf sl) (fun _ h => nomatch h) (by kernel_rfl) (by kernel_rfl) ?_
  refine V ?_
  refine At.stage kz ?_
  refine W ?_
  refine cP rfl rfl rfl (.k rfl (.k rfl .nil)) rfl (dw_New (a := x.th) (b := x.cap) (c := x.wd) (d := x.ver) (key := x.lo)) (fun _ h => nomatch h) (fun v N1 H1 hR => ?_); obtain ⟨bw, rfl, rfl, rfl⟩ := hR; refine ⟨rfl, kz, ?_⟩
  refine At.stage Cl.none ?_
  refine W ?_
  refine At.st1 rfl rfl sz_3 (.t rfl) .c rfl rfl (.n U1) ⟨Cl.none, ?_⟩
  refine W ?_
  refine At.st1 rfl rfl sz_141 (.t rfl) (.t rfl) rfl rfl (.n U1) ⟨Cl.none, ?_⟩
  refine At.nil ?_
  refine At.tN ?_
  refine At.seq ?_
  refine At.plain [ff 0, ff 1, ff 2, ff 3, ff 4, ff 5, ff 6, ff 7] rfl ?_
  refine eA rfl (R.move (.t rfl)) ?_
  refine eA rfl (R.nilCheckP (.t rfl)) ?_
  refine eA rfl (R.fieldAddr fo_160_5 (.t rfl)) ?_
  refine eA rfl (R.load Tryz.underlying157 rfl (.t rfl) (cS M1 rfl)) ?_
  refine eA rfl (R.nilCheckP (.t rfl)) ?_
  refine eA rfl (R.fieldAddr fo_172_6 (.t rfl)) ?_
  refine eA rfl (R.load Tryz.underlying3 rfl (.t rfl) (cS M2 rfl)) ?_
  refine eA rfl (R.as (R.neq (.t rfl) .c) (fun _ => congrArg Value.bool (congrArg Bool.not (decide_eq_true (by omega))))) ?_
  refine At.nil ?_
  refine At.tN ?_
  refine At.cond (.t rfl) (fun c4 => ?_) (fun c4 => ?_)
  ·
   exact absurd hq (by simpa using c4)
  ·
   refine Y ?_
   exact At.finalX (N' := [dwB bw (⟨x.th, x.cap, x.wd, x.ver, x.lo, 1, 0, 0, 0, 0⟩ : Dw), .blk b (.cells _ 160), dcB kp (k.step r).1, raB ba wv (k.step r).2, raW wv n (k.step r).2]) hds how rfl (.t rfl) (List.Sublist.refl _) (⟨bw, rfl, rfl⟩)
 ·
  exact absurd he (by simpa using c3)
theorem ds_Step10c {b ba n kp : Nat} {wv Iv : Value} {x : Ds} {k : Dc} {r : Rr} (hl : x.line = 10) (hc : ¬ x.hi < x.lo) (hk : k.ok) (hn : r.w.length = n) (hN : n ≤ 1000000) (hf : r.few) (hw : r.mid 1152921504606846976) (he : (k.step r).1.line = 0) (hq : ¬ (k.step r).1.e = 0) : FnX Tryz.prog 106 [.pointer (some ⟨b, 0, none⟩), .pointer (some ⟨ba, 0, none⟩)] ([]) ([dsB b kp none none Iv x, dcB kp k, raB ba wv r, raW wv n r]) (fun v N => ∃ bw, v = .bool true ∧ N = [dwB bw (⟨x.th, x.cap, x.wd, x.ver, x.lo, 1, 0, 0, 0, 0⟩ : Dw), dsB b kp (some bw) none Iv (⟨x.th, x.cap, x.wd, x.ver, x.t, x.seq, x.lo, x.hi, 0, x.at_, x.n⟩ : Ds), dcB kp (k.step r).1, raB ba wv (k.step r).2, raW wv n (k.step r).2]) := by
 refine FnX.enter Tryz.func106 (by kernel_rfl) rfl (n := 154) rfl rfl (fun w df hds how => ?_)
 refine Y ?_
 refine At.drawK [tt 0, tt 1, tt 2, tt 3, tt 4, tt 5, tt 6, tt 7, tt 8] (by kernel_rfl) (by kernel_rfl) ?_
 refine W ?_
 refine sJ rfl (R.as (R.gtr (.t rfl) (.t rfl)) dF) ?_
 refine W ?_
 refine cM rfl rfl rfl (.k rfl (.k rfl .nil)) rfl (.n (.skip (.take (.take (.take .nil))))) .nil (dc_Step (x := k) (r := r) hk hn hN hf hw) keysDc .nil ⟨.all, ?_⟩
 refine W ?_
 refine At.condD (.t rfl) (fun c3 => ?_) (fun c3 => ?_)
 ·
  refine W ?_
  refine At.drawM ([dsB b kp none none Iv x]) ([]) [tt 0, tt 1, tt 2, tt 3, tt 4, tt 6, tt 7, tt 8] [tt 5, tt 9, ff 10] [tt 11, tt 12, ff 13, tt 14, tt 15, ff 16] (keepOf sl) (fun _ h => nomatch h) (by kernel_rfl) (by kernel_rfl) ?_
  refine V ?_
  refine At.stage kz ?_
  refine W ?_
  refine cP rfl rfl rfl (.k rfl (.k rfl .nil)) rfl (dw_New (a := x.th) (b := x.cap) (c := x.wd) (d := x.ver) (key := x.lo)) (fun _ h => nomatch h) (fun v N1 H1 hR => ?_); obtain ⟨bw, rfl, rfl, rfl⟩ := hR; refine ⟨rfl, kz, ?_⟩
  refine At.stage Cl.none ?_
  refine W ?_
  refine At.st1 rfl rfl sz_3 (.t rfl) .c rfl rfl (.n U1) ⟨Cl.none, ?_⟩
  refine W ?_
  refine At.st1 rfl rfl sz_141 (.t rfl) (.t rfl) rfl rfl (.n U1) ⟨Cl.none, ?_⟩
  refine At.nil ?_
  refine At.tN ?_
  refine At.seq ?_
  refine At.plain [ff 0, ff 1, ff 2, ff 3, ff 4, ff 5, ff 6, ff 7] rfl ?_
  refine eA rfl (R.move (.t rfl)) ?_
  refine eA rfl (R.nilCheckP (.t rfl)) ?_
  refine eA rfl (R.fieldAddr fo_160_5 (.t rfl)) ?_
  refine eA rfl (R.load Tryz.underlying157 rfl (.t rfl) (cS M1 rfl)) ?_
  refine eA rfl (R.nilCheckP (.t rfl)) ?_
  refine eA rfl (R.fieldAddr fo_172_6 (.t rfl)) ?_
  refine eA rfl (R.load Tryz.underlying3 rfl (.t rfl) (cS M2 rfl)) ?_
  refine eA rfl (R.as (R.neq (.t rfl) .c) (fun _ => congrArg Value.bool (congrArg Bool.not (decide_eq_false (by omega))))) ?_
  refine At.nil ?_
  refine At.tN ?_
  refine At.cond (.t rfl) (fun c4 => ?_) (fun c4 => ?_)
  ·
   refine W ?_
   refine At.st1 rfl rfl sz_3 (.t rfl) .c rfl rfl (.n U1) ⟨.all, ?_⟩
   refine Y ?_
   exact At.finalX (N' := [dwB bw (⟨x.th, x.cap, x.wd, x.ver, x.lo, 1, 0, 0, 0, 0⟩ : Dw), .blk b (.cells _ 160), dcB kp (k.step r).1, raB ba wv (k.step r).2, raW wv n (k.step r).2]) hds how rfl (.t rfl) (List.Sublist.refl _) (⟨bw, rfl, rfl⟩)
  ·
   exact absurd (by simpa using c4) hq
 ·
  exact absurd he (by simpa using c3)
theorem ds_Step11a {b ba n kp bw : Nat} {wv Iv : Value} {lp : Option Nat} {x : Ds} {k : Dc} {u : Dw} {r : Rr} (hl : x.line = 11) (hu : u.ok) (hn : r.w.length = n) (hN : n ≤ 1000000) (hf : r.few) (hw : r.mid 1152921504606846976) (he : ¬ (u.step r).1.line = 0) : FnX Tryz.prog 106 [.pointer (some ⟨b, 0, none⟩), .pointer (some ⟨ba, 0, none⟩)] ([]) ([dsB b kp (some bw) lp Iv x, dcB kp k, dwB bw u, raB ba wv r, raW wv n r]) (fun v N => v = .bool false ∧ N = [dsB b kp (some bw) lp Iv x, dcB kp k, dwB bw (u.step r).1, raB ba wv (u.step r).2, raW wv n (u.step r).2]) := by
 refine FnX.enter Tryz.func106 (by kernel_rfl) rfl (n := 154) rfl rfl (fun w df hds how => ?_)
 refine Y ?_
 refine cM rfl rfl rfl (.k rfl (.k rfl .nil)) rfl (.n (.skip (.skip (.take (.take (.take .nil)))))) .nil (dw_Step (x := u) (r := r) hu hn hN hf hw) keysDw .nil ⟨.all, ?_⟩
 refine W ?_
 refine At.condD (.t rfl) (fun c3 => ?_) (fun c3 => ?_)
 ·
  exact absurd (by simpa using c3) he
 ·
  refine Y ?_
  exact At.finalX (N' := [dsB b kp (some bw) lp Iv x, dcB kp k, dwB bw (u.step r).1, raB ba wv (u.step r).2, raW wv n (u.step r).2]) hds how rfl (.t rfl) (List.Sublist.refl _) (⟨rfl, rfl⟩)
theorem ds_Step11b {b ba n kp bw : Nat} {wv Iv : Value} {lp : Option Nat} {x : Ds} {k : Dc} {u : Dw} {r : Rr} (hl : x.line = 11) (hu : u.ok) (hn : r.w.length = n) (hN : n ≤ 1000000) (hf : r.few) (hw : r.mid 1152921504606846976) (he : (u.step r).1.line = 0) : FnX Tryz.prog 106 [.pointer (some ⟨b, 0, none⟩), .pointer (some ⟨ba, 0, none⟩)] ([]) ([dsB b kp (some bw) lp Iv x, dcB kp k, dwB bw u, raB ba wv r, raW wv n r]) (fun v N => ∃ bl, v = .bool false ∧ N = [dsB b kp (some bw) (some bl) Iv (⟨x.th, x.cap, x.wd, x.ver, x.t, x.seq, x.lo, x.hi, 1, (u.step r).1.at_, x.n⟩ : Ds), dlB bl (.slice none 0 0) (⟨x.th, x.cap, x.wd, x.ver, (u.step r).1.at_, x.lo, x.hi, k.version, 1, 0, 0, 0, 0, 0, []⟩ : Dl), rowE iK 43 (.slice none 0 0) [], dcB kp k, dwB bw (u.step r).1, raB ba wv (u.step r).2, raW wv n (u.step r).2]) := by
 refine FnX.enter Tryz.func106 (by kernel_rfl) rfl (n := 154) rfl rfl (fun w df hds how => ?_)
 refine Y ?_
 refine cM rfl rfl rfl (.k rfl (.k rfl .nil)) rfl (.n (.skip (.skip (.take (.take (.take .nil)))))) .nil (dw_Step (x := u) (r := r) hu hn hN hf hw) keysDw .nil ⟨.all, ?_⟩
 refine W ?_
 refine At.condD (.t rfl) (fun c3 => ?_) (fun c3 => ?_)
 ·
  refine W ?_
  refine cX rfl rfl rfl (.k rfl (.k rfl .nil)) rfl (.take .nil) (.blk (.st M1) .nil) (ds_chunk (b := b) (Iv := Iv) (x := x) (k := k)) (Aprt.sub' sl) (fun v B hR => ⟨.all, ?_⟩); obtain ⟨bl, rfl, rfl⟩ := hR
  refine Z ?_
  exact At.finalX (N' := [dsB b kp (some bw) (some bl) Iv (⟨x.th, x.cap, x.wd, x.ver, x.t, x.seq, x.lo, x.hi, 1, (u.step r).1.at_, x.n⟩ : Ds), dlB bl (.slice none 0 0) (⟨x.th, x.cap, x.wd, x.ver, (u.step r).1.at_, x.lo, x.hi, k.version, 1, 0, 0, 0, 0, 0, []⟩ : Dl), rowE iK 43 (.slice none 0 0) [], dcB kp k, dwB bw (u.step r).1, raB ba wv (u.step r).2, raW wv n (u.step r).2]) hds how rfl (.t rfl) (List.Sublist.refl _) (⟨bl, rfl, rfl⟩)
 ·
  exact absurd he (by simpa using c3)
theorem ds_Step1a {b ba n kp bl : Nat} {wv Iv Lv : Value} {wp : Option Nat} {x : Ds} {y : Dl} {its : List Itm} {r : Rr} (hl : x.line = 1) (hy : y.ok) (hL : y.l.length ≤ 9000) (hI : its.length ≤ 1000000) (hn : r.w.length = n) (hN : n ≤ 1000000) (hf : r.few) (hw : r.mid 1152921504606846976) (he : ¬ (y.step r).1.line = 0) : FnX Tryz.prog 106 [.pointer (some ⟨b, 0, none⟩), .pointer (some ⟨ba, 0, none⟩)] ([]) ([rowE iK 43 Iv its, dsB b kp wp (some bl) Iv x, dlB bl Lv y, rowE iK 43 Lv y.l, raB ba wv r, raW wv n r]) (fun v N => ∃ Lv2, v = .bool false ∧ N = [rowE iK 43 Iv its, dsB b kp wp (some bl) Iv x, dlB bl Lv2 (y.step r).1, rowE iK 43 Lv2 (y.step r).1.l, raB ba wv (y.step r).2, raW wv n (y.step r).2]) := by
 refine FnX.enter Tryz.func106 (by kernel_rfl) rfl (n := 154) rfl rfl (fun w df hds how => ?_)
 refine Y ?_
 refine cX rfl rfl rfl (.k rfl (.k rfl .nil)) rfl (.skip (.skip .all)) .nil (dl_Step (x := y) (r := r) hy (by omega) hn hN hf hw) Aprt.nil (fun v B hR => ⟨.all, ?_⟩); obtain ⟨Lv2, rfl, rfl⟩ := hR; refine At.perm (N' := [rowE iK 43 Iv its, dsB b kp wp (some bl) Iv x, dlB bl Lv2 (y.step r).1, rowE iK 43 Lv2 (y.step r).1.l, raB ba wv (y.step r).2, raW wv n (y.step r).2]) (List.perm_append_comm (l₁ := [_, _, _, _]) (l₂ := [_, _])) ?_
 refine W ?_
 refine At.condD (.t rfl) (fun c4 => ?_) (fun c4 => ?_)
 ·
  exact absurd (by simpa using c4) he
 ·
  refine Y ?_
  exact At.finalX (N' := [rowE iK 43 Iv its, dsB b kp wp (some bl) Iv x, dlB bl Lv2 (y.step r).1, rowE iK 43 Lv2 (y.step r).1.l, raB ba wv (y.step r).2, raW wv n (y.step r).2]) hds how rfl (.t rfl) (List.Sublist.refl _) (⟨Lv2, rfl, rfl⟩)
theorem ds_Step1b {b ba n kp bl : Nat} {wv Iv Lv : Value} {wp : Option Nat} {x : Ds} {y : Dl} {its : List Itm} {r : Rr} (hl : x.line = 1) (hy : y.ok) (hL : y.l.length ≤ 9000) (hI : its.length ≤ 1000000) (hn : r.w.length = n) (hN : n ≤ 1000000) (hf : r.few) (hw : r.mid 1152921504606846976) (he : (y.step r).1.line = 0) (hL2 : (y.step r).1.l.length ≤ 10000) : FnX Tryz.prog 106 [.pointer (some ⟨b, 0, none⟩), .pointer (some ⟨ba, 0, none⟩)] ([]) ([rowE iK 43 Iv its, dsB b kp wp (some bl) Iv x, dlB bl Lv y, rowE iK 43 Lv y.l, raB ba wv r, raW wv n r]) (fun v N => ∃ Iv2 Lv2, v = .bool false ∧ N = [rowE iK 43 Iv2 ((y.step r).1.l.foldl takeD its), dsB b kp wp (some bl) Iv2 (⟨x.th, x.cap, x.wd, x.ver, x.t, x.seq, x.lo, x.hi, 2, x.at_, x.n⟩ : Ds), dlB bl Lv2 (y.step r).1, rowE iK 43 Lv2 (y.step r).1.l, raB ba wv (y.step r).2, raW wv n (y.step r).2]) := by
 refine FnX.enter Tryz.func106 (by kernel_rfl) rfl (n := 154) rfl rfl (fun w df hds how => ?_)
 refine Y ?_
 refine cX rfl rfl rfl (.k rfl (.k rfl .nil)) rfl (.skip (.skip .all)) .nil (dl_Step (x := y) (r := r) hy (by omega) hn hN hf hw) Aprt.nil (fun v B hR => ⟨.all, ?_⟩); obtain ⟨Lv2, rfl, rfl⟩ := hR; refine At.perm (N' := [rowE iK 43 Iv its, dsB b kp wp (some bl) Iv x, dlB bl Lv2 (y.step r).1, rowE iK 43 Lv2 (y.step r).1.l, raB ba wv (y.step r).2, raW wv n (y.step r).2]) (List.perm_append_comm (l₁ := [_, _, _, _]) (l₂ := [_, _])) ?_
 refine W ?_
 refine At.condD (.t rfl) (fun c4 => ?_) (fun c4 => ?_)
 ·
  refine W ?_
  refine cX rfl rfl rfl (.k rfl .nil) rfl (.take (.take .nil)) (.blk (.st M2) (.cons (wS M3) .nil)) (ds_takes (b := b) (bl := bl) (Iv := Iv) (Lv := Lv2) (x := x) (y := (y.step r).1) (its := its) hL2 hI) (Aprt.two sl) (fun v B hR => ⟨.all, ?_⟩); obtain ⟨Iv2, rfl, rfl⟩ := hR
  refine W ?_
  refine At.st1 rfl rfl sz_3 (.t rfl) .c rfl rfl (.n U1) ⟨.all, ?_⟩
  refine Y ?_
  exact At.finalX (N' := [rowE iK 43 Iv2 ((y.step r).1.l.foldl takeD its), .blk b (.cells _ 160), dlB bl Lv2 (y.step r).1, rowE iK 43 Lv2 (y.step r).1.l, raB ba wv (y.step r).2, raW wv n (y.step r).2]) hds how rfl (.t rfl) (List.Sublist.refl _) (⟨Iv2, Lv2, rfl, rfl⟩)
 ·
  exact absurd he (by simpa using c4)
theorem ds_Step2 {b ba n kp : Nat} {wv Iv : Value} {wp lp : Option Nat} {x : Ds} {r : Rr} (hl : x.line = 2) (hx : -1152921504606846976 ≤ x.at_ ∧ x.at_ ≤ 1152921504606846976) (hx2 : -1152921504606846976 ≤ x.n ∧ x.n ≤ 1152921504606846976) (hn : r.w.length = n) (hN : n ≤ 1000000) (hf : r.few) (hw : r.mid 1152921504606846976) : FnX Tryz.prog 106 [.pointer (some ⟨b, 0, none⟩), .pointer (some ⟨ba, 0, none⟩)] ([]) ([dsB b kp wp lp Iv x, raB ba wv r, raW wv n r]) (fun v N => v = .bool false ∧ N = [dsB b kp wp lp Iv (if (r.peek (x.at_ + 2) / 2) = 0 then (⟨x.th, x.cap, x.wd, x.ver, x.t, x.seq, x.lo, x.hi, 4, x.at_, (r.peek (x.at_ + 2) / 2)⟩ : Ds) else (⟨x.th, x.cap, x.wd, x.ver, x.t, x.seq, x.lo, x.hi, 3, x.at_, (r.peek (x.at_ + 2) / 2)⟩ : Ds)), raB ba wv (r.load (x.at_ + 2)), raW wv n (r.load (x.at_ + 2))]) := by
 refine FnX.enter Tryz.func106 (by kernel_rfl) rfl (n := 154) rfl rfl (fun w df hds how => ?_)
 refine Y ?_
 refine cM rfl rfl rfl (.k rfl (.k rfl .nil)) rfl (.n (.skip (.take (.take .nil)))) .nil (r_Load (r := r) (i := x.at_ + 2) hn hN hf) keysRa .nil ⟨.all, ?_⟩
 refine At.callVR rfl rfl rfl (.k rfl .nil) (.nil) (fun hg => r_At) .all ?_
 refine W ?_
 refine At.st1 rfl rfl sz_3 (.t rfl) (.t rfl) rfl rfl (.n U0) ⟨.all, ?_⟩
 refine W ?_
 refine At.st1 rfl rfl sz_3 (.t rfl) .c rfl rfl (.n U0) ⟨.all, ?_⟩
 refine Z ?_
 refine At.condD (.t rfl) (fun c5 => ?_) (fun c5 => ?_)
 ·
  refine W ?_
  refine At.st1 rfl rfl sz_3 (.t rfl) .c rfl rfl (.n U0) ⟨.all, ?_⟩
  refine Y ?_
  exact At.finalX (N' := [.blk b (.cells _ 160), raB ba wv (r.load (x.at_ + 2)), raW wv n (r.load (x.at_ + 2))]) hds how rfl (.t rfl) (List.Sublist.refl _) (⟨rfl, by (rw [if_pos (by simpa using c5)]; rfl)⟩)
 ·
  refine Y ?_
  exact At.finalX (N' := [.blk b (.cells _ 160), raB ba wv (r.load (x.at_ + 2)), raW wv n (r.load (x.at_ + 2))]) hds how rfl (.t rfl) (List.Sublist.refl _) (⟨rfl, by (rw [if_neg (by simpa using c5)]; rfl)⟩)
theorem ds_Step3a {b ba n kp : Nat} {wv Iv : Value} {wp lp : Option Nat} {x : Ds} {r : Rr} (hl : x.line = 3) (hx : -1152921504606846976 ≤ x.at_ ∧ x.at_ ≤ 1152921504606846976) (hx2 : -1152921504606846976 ≤ x.n ∧ x.n ≤ 1152921504606846976) (hn : r.w.length = n) (hN : n ≤ 1000000) (hf : r.few) (hw : r.mid 1152921504606846976) (hc : ¬ r.peek x.n ≤ x.hi) : FnX Tryz.prog 106 [.pointer (some ⟨b, 0, none⟩), .pointer (some ⟨ba, 0, none⟩)] ([]) ([dsB b kp wp lp Iv x, raB ba wv r, raW wv n r]) (fun v N => v = .bool false ∧ N = [dsB b kp wp lp Iv (⟨x.th, x.cap, x.wd, x.ver, x.t, x.seq, x.lo, x.hi, 4, x.at_, x.n⟩ : Ds), raB ba wv (r.load x.n), raW wv n (r.load x.n)]) := by
 refine FnX.enter Tryz.func106 (by kernel_rfl) rfl (n := 154) rfl rfl (fun w df hds how => ?_)
 refine Y ?_
 refine At.st1 rfl rfl sz_3 (.t rfl) .c rfl rfl (.n U0) ⟨.all, ?_⟩
 refine W ?_
 refine At.re (N' := [dsB b kp wp lp Iv (⟨x.th, x.cap, x.wd, x.ver, x.t, x.seq, x.lo, x.hi, 4, x.at_, x.n⟩ : Ds), raB ba wv r, raW wv n r]) rfl ?_
 have hq : (⟨x.th, x.cap, x.wd, x.ver, x.t, x.seq, x.lo, x.hi, 4, x.at_, x.n⟩ : Ds).n = x.n := rfl
 refine At.drawL ([.blk b (.cells (dsC kp wp lp Iv (⟨x.th, x.cap, x.wd, x.ver, x.t, x.seq, x.lo, x.hi, 4, x.at_, x.n⟩ : Ds)) 160)]) [tt 0, tt 1, tt 2, tt 3, tt 4, tt 5, tt 7, tt 8, tt 9, tt 10] [] [ff 6, tt 11] (keepOf sl) (by kernel_rfl) (by kernel_rfl) ?_
 refine sC rfl kz (R.move (.t rfl)) ?_
 refine sC rfl kz (R.move (.t rfl)) ?_
 refine sC rfl kz (R.nilCheckP (.t rfl)) ?_
 refine sC rfl kz (R.fieldAddr fo_160_10 (.t rfl)) ?_
 refine sC rfl kz (R.load Tryz.underlying3 rfl (.t rfl) (cK M0 rfl)) ?_
 refine sC rfl kz (R.as (R.addI (.t rfl) .c gO) (fun _ => congrArg (Value.int .i64) (Int.add_zero x.n))) ?_
 refine V ?_
 refine At.stage kI ?_
 refine At.stage kz ?_
 refine cM rfl rfl rfl (.k rfl (.k rfl .nil)) rfl (.n (.skip (.take (.take .nil)))) .nil (r_Load (r := r) (i := x.n) hn hN hf) keysRa .nil ⟨kz, ?_⟩
 refine sC rfl kz (R.as (R.leq (.t rfl) (.t rfl)) dF) ?_
 refine At.nil ?_
 refine At.tN ?_
 refine At.cond (.t rfl) (fun c6 => ?_) (fun c6 => ?_)
 ·
  exact absurd (by simpa using c6) hc
 ·
  refine Z ?_
  exact At.finalX (N' := [.blk b (.cells _ 160), raB ba wv (r.load x.n), raW wv n (r.load x.n)]) hds how rfl (.t rfl) (List.Sublist.refl _) (⟨rfl, rfl⟩)
theorem ds_Step3b {b ba n kp : Nat} {wv Iv : Value} {wp lp : Option Nat} {x : Ds} {r : Rr} {k : Dc} (hl : x.line = 3) (hx : -1152921504606846976 ≤ x.at_ ∧ x.at_ ≤ 1152921504606846976) (hx2 : -1152921504606846976 ≤ x.n ∧ x.n ≤ 1152921504606846976) (hn : r.w.length = n) (hN : n ≤ 1000000) (hf : r.few) (hw : r.mid 1152921504606846976) (hc : r.peek x.n ≤ x.hi) : FnX Tryz.prog 106 [.pointer (some ⟨b, 0, none⟩), .pointer (some ⟨ba, 0, none⟩)] ([]) ([dsB b kp wp lp Iv x, dcB kp k, raB ba wv r, raW wv n r]) (fun v N => ∃ bl, v = .bool false ∧ N = [dsB b kp wp (some bl) Iv (⟨x.th, x.cap, x.wd, x.ver, x.t, x.seq, x.lo, x.hi, 1, x.n, x.n⟩ : Ds), dlB bl (.slice none 0 0) (⟨x.th, x.cap, x.wd, x.ver, x.n, x.lo, x.hi, k.version, 1, 0, 0, 0, 0, 0, []⟩ : Dl), rowE iK 43 (.slice none 0 0) [], dcB kp k, raB ba wv (r.load x.n), raW wv n (r.load x.n)]) := by
 refine FnX.enter Tryz.func106 (by kernel_rfl) rfl (n := 154) rfl rfl (fun w df hds how => ?_)
 refine Y ?_
 refine At.st1 rfl rfl sz_3 (.t rfl) .c rfl rfl (.n U0) ⟨.all, ?_⟩
 refine W ?_
 refine At.re (N' := [dsB b kp wp lp Iv (⟨x.th, x.cap, x.wd, x.ver, x.t, x.seq, x.lo, x.hi, 4, x.at_, x.n⟩ : Ds), dcB kp k, raB ba wv r, raW wv n r]) rfl ?_
 have hq : (⟨x.th, x.cap, x.wd, x.ver, x.t, x.seq, x.lo, x.hi, 4, x.at_, x.n⟩ : Ds).n = x.n := rfl
 refine At.drawL ([.blk b (.cells (dsC kp wp lp Iv (⟨x.th, x.cap, x.wd, x.ver, x.t, x.seq, x.lo, x.hi, 4, x.at_, x.n⟩ : Ds)) 160)]) [tt 0, tt 1, tt 2, tt 3, tt 4, tt 5, tt 7, tt 8, tt 9, tt 10] [] [ff 6, tt 11] (keepOf sl) (by kernel_rfl) (by kernel_rfl) ?_
 refine sC rfl kz (R.move (.t rfl)) ?_
 refine sC rfl kz (R.move (.t rfl)) ?_
 refine sC rfl kz (R.nilCheckP (.t rfl)) ?_
 refine sC rfl kz (R.fieldAddr fo_160_10 (.t rfl)) ?_
 refine sC rfl kz (R.load Tryz.underlying3 rfl (.t rfl) (cK M0 rfl)) ?_
 refine sC rfl kz (R.as (R.addI (.t rfl) .c gO) (fun _ => congrArg (Value.int .i64) (Int.add_zero x.n))) ?_
 refine V ?_
 refine At.stage kI ?_
 refine At.stage kz ?_
 refine cM rfl rfl rfl (.k rfl (.k rfl .nil)) rfl (.n (.skip (.skip (.take (.take .nil))))) .nil (r_Load (r := r) (i := x.n) hn hN hf) keysRa .nil ⟨kz, ?_⟩
 refine sC rfl kz (R.as (R.leq (.t rfl) (.t rfl)) dT) ?_
 refine At.nil ?_
 refine At.tN ?_
 refine At.cond (.t rfl) (fun c6 => ?_) (fun c6 => ?_)
 ·
  refine W ?_
  refine cX rfl rfl rfl (.k rfl (.k rfl .nil)) rfl (.take .nil) (.blk (.st M1) .nil) (ds_chunk (b := b) (Iv := Iv) (x := (⟨x.th, x.cap, x.wd, x.ver, x.t, x.seq, x.lo, x.hi, 4, x.at_, x.n⟩ : Ds)) (k := k)) (Aprt.sub' sl) (fun v B hR => ⟨.all, ?_⟩); obtain ⟨bl, rfl, rfl⟩ := hR
  refine Z ?_
  exact At.finalX (N' := [dsB b kp wp (some bl) Iv (⟨x.th, x.cap, x.wd, x.ver, x.t, x.seq, x.lo, x.hi, 1, x.n, x.n⟩ : Ds), dlB bl (.slice none 0 0) (⟨x.th, x.cap, x.wd, x.ver, x.n, x.lo, x.hi, k.version, 1, 0, 0, 0, 0, 0, []⟩ : Dl), rowE iK 43 (.slice none 0 0) [], dcB kp k, raB ba wv (r.load x.n), raW wv n (r.load x.n)]) hds how rfl (.t rfl) (List.Sublist.refl _) (⟨bl, rfl, rfl⟩)
 ·
  exact absurd hc (by simpa using c6)
theorem ds_Step4 {b ba n kp : Nat} {wv Iv : Value} {wp lp : Option Nat} {x : Ds} {r : Rr} (hl : x.line = 4) (ht : 0 ≤ x.t ∧ x.t ≤ 100000) (hn : r.w.length = n) (hN : n ≤ 1000000) (hf : r.few) (hw : r.mid 1152921504606846976) : FnX Tryz.prog 106 [.pointer (some ⟨b, 0, none⟩), .pointer (some ⟨ba, 0, none⟩)] ([]) ([dsB b kp wp lp Iv x, raB ba wv r, raW wv n r]) (fun v N => v = .bool true ∧ N = [dsB b kp wp lp Iv (⟨x.th, x.cap, x.wd, x.ver, x.t, x.seq, x.lo, x.hi, 0, x.at_, x.n⟩ : Ds), raB ba wv (r.store (3 + x.t) (claimD x.seq 0)), raW wv n (r.store (3 + x.t) (claimD x.seq 0))]) := by
 refine FnX.enter Tryz.func106 (by kernel_rfl) rfl (n := 154) rfl rfl (fun w df hds how => ?_)
 refine Y ?_
 refine At.drawL ([dsB b kp wp lp Iv x]) [tt 0, tt 1, tt 2, tt 3, tt 4, tt 6, tt 7, tt 8, tt 9] [ff 5, ff 10] [ff 11] (keepOf sl) (by kernel_rfl) (by kernel_rfl) ?_
 refine V ?_
 refine At.stage kI ?_
 refine At.callVR rfl rfl rfl (.k rfl .nil) (.nil) (fun hg => r_Psa (by omega)) kI ?_
 refine At.callVR rfl rfl rfl (.k rfl (.kc .nil)) (.nil) (fun hg => r_Claim) kI ?_
 refine At.stage kz ?_
 refine cM rfl rfl rfl (.k rfl (.k rfl (.k rfl .nil))) rfl (.n (.skip (.take (.take .nil)))) .nil (r_Store (r := r) (i := 3 + x.t) (x := claimD x.seq 0) hn hN hf) keysRa .nil ⟨kz, ?_⟩
 refine W ?_
 refine At.st1 rfl rfl sz_3 (.t rfl) .c rfl rfl (.n U0) ⟨.all, ?_⟩
 refine Y ?_
 exact At.finalX (N' := [.blk b (.cells _ 160), raB ba wv (r.store (3 + x.t) (claimD x.seq 0)), raW wv n (r.store (3 + x.t) (claimD x.seq 0))]) hds how rfl (.t rfl) (List.Sublist.refl _) (⟨rfl, rfl⟩)
end Go.Proofs.YtbolanigdkgbdaaGreat
namespace Go.Proofs.YtbolanigdkgbdaaGreat
open Go Go.RowKit
set_option maxRecDepth 10000
set_option linter.unusedVariables false
set_option linter.unnecessarySimpa false
set_option maxHeartbeats 1000000
theorem bt_174 : buildTab Tryz.prog 174 = some (#[.int .i64 0, .int .i64 0], [(0, 1), (1, 1)]) := by kernel_rfl
theorem et_174 : elemTab Tryz.prog 174 = some (2, 16) := by kernel_rfl
theorem fo_134_5 : fieldOff? Tryz.prog 134 5 = some 5 := by kernel_rfl
theorem sz_132 : (Tryz.prog.info? 132).map (·.size) = some 1 := by kernel_rfl
abbrev pK : Ek (Int × Int) := ⟨fun x => [.int .i64 x.1, .int .i64 x.2], 2, fun _ => rfl, fun _ v hv => by
  simp at hv; rcases hv with rfl | rfl <;> rfl⟩
def pairsD (l : List Itm) : List (Int × Int) := (l.filter fun y => decide (0 ≤ y.data % 2097152 - 1)).map fun y => (y.key, y.data % 2097152 - 1)
theorem pairsD_yes {l : List Itm} {i : Nat} (h : i < l.length) (c : 0 ≤ (gE l (i : Int)).data % 2097152 - 1) : pairsD (l.take (i + 1)) = pairsD (l.take i) ++ [((gE l (i : Int)).key, (gE l (i : Int)).data % 2097152 - 1)] := by
  have e : gE l (i : Int) = l[i] := by simp [gE, h]
  unfold pairsD
  rw [List.take_succ_eq_append_getElem h, List.filter_append, List.map_append, e]
  rw [e] at c
  rw [List.filter_cons, if_pos (decide_eq_true c)]; rfl
theorem pairsD_no {l : List Itm} {i : Nat} (h : i < l.length) (c : ¬ 0 ≤ (gE l (i : Int)).data % 2097152 - 1) : pairsD (l.take (i + 1)) = pairsD (l.take i) := by
  have e : gE l (i : Int) = l[i] := by simp [gE, h]
  unfold pairsD
  rw [List.take_succ_eq_append_getElem h, List.filter_append, List.map_append]
  rw [e] at c
  rw [List.filter_cons, if_neg (by simpa using c)]; exact List.append_nil _
theorem ds_Answer0 {b kp : Nat} {wp lp : Option Nat} {Iv : Value} {x : Ds} {k : Dc} {its : List Itm} (hl : ¬ x.line = 0) : Fn Tryz.prog 107 [.pointer (some ⟨b, 0, none⟩)] ([dsB b kp wp lp Iv x]) ([]) (IsV (.agg (anV ⟨0, false, 0, 0, 0⟩ (.slice none 0 0)))) := by
 refine Fn.enter Tryz.func107 (by kernel_rfl) rfl (n := 72) rfl rfl (fun w => ?_)
 refine W ?_
 refine At.alloc rfl rfl rfl ze_134 (fun b1 hb1 => ⟨.all, ?_⟩)
 refine W ?_
 refine eA rfl (R.as (R.neq (.t rfl) .c) (fun _ => congrArg Value.bool (congrArg Bool.not (decide_eq_false (by omega))))) ?_
 refine W ?_
 refine eA rfl (R.build bt_134 .nil .nil rfl) ?_
 refine At.stAll (vs := [.int .i64 0, .bool false, .int .i64 0, .int .i64 0, .int .i64 0, .slice none 0 0]) rfl rfl sz_134 (.t rfl) (.t rfl) rfl rfl rfl (.n U0) ⟨.all, ?_⟩
 refine W ?_
 exact At.final rfl (.a (vs := [_, _, _, _, _, _]) Tryz.underlying134 rfl sz_134 rfl (csS M1 ⟨rfl, rfl, rfl, rfl, rfl, rfl, trivial⟩)) (List.nil_sublist _) (⟨rfl, rfl, rfl⟩)
theorem ds_AnswerE {b kp : Nat} {wp lp : Option Nat} {Iv : Value} {x : Ds} {k : Dc} {its : List Itm} (hl : x.line = 0) (he : ¬ k.e = 0) : Fn Tryz.prog 107 [.pointer (some ⟨b, 0, none⟩)] ([dsB b kp wp lp Iv x, dcB kp k]) ([]) (IsV (.agg (anV ⟨k.e, false, 0, 0, 0⟩ (.slice none 0 0)))) := by
 refine Fn.enter Tryz.func107 (by kernel_rfl) rfl (n := 72) rfl rfl (fun w => ?_)
 refine W ?_
 refine At.alloc rfl rfl rfl ze_134 (fun b1 hb1 => ⟨.all, ?_⟩)
 refine W ?_
 refine eA rfl (R.as (R.neq (.t rfl) .c) (fun _ => congrArg Value.bool (congrArg Bool.not (decide_eq_true (by omega))))) ?_
 refine W ?_
 refine eA rfl (R.as (R.neq (.t rfl) .c) (fun _ => congrArg Value.bool (congrArg Bool.not (decide_eq_false (by omega))))) ?_
 refine W ?_
 refine eA rfl (R.build bt_134 (.k rfl .nil) (.cons rfl .nil) rfl) ?_
 refine At.stAll (vs := [.int .i64 k.e, .bool false, .int .i64 0, .int .i64 0, .int .i64 0, .slice none 0 0]) rfl rfl sz_134 (.t rfl) (.t rfl) rfl rfl rfl (.n U0) ⟨.all, ?_⟩
 refine W ?_
 exact At.final rfl (.a (vs := [_, _, _, _, _, _]) Tryz.underlying134 rfl sz_134 rfl (csS M2 ⟨rfl, rfl, rfl, rfl, rfl, rfl, trivial⟩)) (List.nil_sublist _) (⟨rfl, rfl, rfl⟩)
theorem ds_Answer {b kp : Nat} {wp lp : Option Nat} {Iv : Value} {x : Ds} {k : Dc} {its : List Itm} (hl : x.line = 0) (he : k.e = 0) (hI : its.length ≤ 1000000) : Fn Tryz.prog 107 [.pointer (some ⟨b, 0, none⟩)] ([dsB b kp wp lp Iv x, dcB kp k, rdE iK Iv its]) ([]) (fun v N H => ∃ pv, v = .agg (anV ⟨0, false, 0, -1, k.version⟩ pv) ∧ N = [rowE pK 174 pv (pairsD its)] ∧ H = []) := by
 refine Fn.enter Tryz.func107 (by kernel_rfl) rfl (n := 72) rfl rfl (fun w => ?_)
 refine W ?_
 refine At.alloc rfl rfl rfl ze_134 (fun b1 hb1 => ⟨.all, ?_⟩)
 refine W ?_
 refine eA rfl (R.as (R.neq (.t rfl) .c) (fun _ => congrArg Value.bool (congrArg Bool.not (decide_eq_true (by omega))))) ?_
 refine W ?_
 refine eA rfl (R.as (R.neq (.t rfl) .c) (fun _ => congrArg Value.bool (congrArg Bool.not (decide_eq_true (by omega))))) ?_
 refine W ?_
 refine eA rfl (R.build bt_134 (.kc (.k rfl .nil)) (.cons rfl (.cons rfl .nil)) rfl) ?_
 refine At.alloc rfl rfl rfl ze_134 (fun b2 hb2 => ⟨.all, ?_⟩)
 refine At.stAll (vs := [.int .i64 0, .bool false, .int .i64 0, .int .i64 (-1), .int .i64 k.version, .slice none 0 0]) rfl rfl sz_134 (.t rfl) (.t rfl) rfl rfl rfl (.n U0) ⟨.all, ?_⟩
 refine W ?_
 refine At.nilRow pK 174 ?_
 refine At.loop3 (fun (i : Nat) (ps : List (Int × Int)) (pv : Value) => i ≤ its.length ∧ ps = pairsD (its.take i) ∧ ps.length ≤ i) (fun (i : Nat) (ps : List (Int × Int)) (pv : Value) => its.length - i) (fun (i : Nat) (ps : List (Int × Int)) (pv : Value) => [(0, true, .pointer (some ⟨b, 0, none⟩)), (2, true, .pointer (some ⟨b1, 0, none⟩)), (3, true, .pointer (some ⟨b2, 0, none⟩)), (4, true, .int .i64 i)]) (fun (i : Nat) (ps : List (Int × Int)) (pv : Value) => [rowE pK 174 pv ps, .blk b2 (.cells #[.int .i64 0, .bool false, .int .i64 0, .int .i64 (-1), .int .i64 k.version, pv] 134), .blk b1 (.cells #[.int .i64 0, .bool false, .int .i64 0, .int .i64 0, .int .i64 0, .slice none 0 0] 134)]) (fun (i : Nat) (ps : List (Int × Int)) (pv : Value) => []) (0) ([]) ((.slice none 0 0)) ⟨Nat.zero_le _, rfl, Nat.le_refl _⟩ (.cons rfl (.cons rfl (.cons rfl (.cons rfl .nil)))) (List.Sublist.refl _) rfl (fun i ps pv hi => ?_)
 obtain ⟨hi1, hi2, hi3⟩ := hi
 refine Z ?_
 refine At.condD (.t rfl) (fun c3 => ?_) (fun c3 => ?_)
 ·
  refine W ?_
  refine At.callVR rfl rfl rfl (.k rfl .nil) (.nil) (fun hg => r_Val) .all ?_
  refine Z ?_
  refine At.condD (.t rfl) (fun c4 => ?_) (fun c4 => ?_)
  ·
   refine At.drawM ([dsB b kp wp lp Iv x, rdE iK Iv its, .blk b2 (.cells #[.int .i64 0, .bool false, .int .i64 0, .int .i64 (-1), .int .i64 k.version, pv] 134)]) ([]) [tt 0, tt 2, tt 3, tt 4, tt 6, tt 10] [tt 1, tt 5, tt 7, tt 8, tt 9, tt 11, ff 12, ff 13, tt 14] [ff 15] (keepOf sl) (fun _ h => nomatch h) (by kernel_rfl) (by kernel_rfl) ?_
   refine V ?_
   refine At.stage kz ?_
   refine W ?_
   refine sC rfl kz (R.build bt_174 (.k rfl (.k rfl .nil)) (.cons rfl (.cons rfl .nil)) rfl) ?_
   refine At.lit (k := pK) rfl rfl rfl Tryz.underlying132 et_174 (.k rfl .nil) (.cons (y := ((gE its (i : Int)).key, ((gE its (i : Int)).data % 2097152 - 1))) rfl .nil) rfl rfl rfl (fun v1 => ⟨kz, ?_⟩)
   refine At.app (k := pK) rfl rfl rfl Tryz.underlying132 et_174 (.t rfl) (.t rfl) (fun _ => by (exact U1)) (wS M3) (by (simp <;> omega)) (fun v2 => ⟨kz, ?_⟩)
   refine V ?_
   refine At.stage Cl.none ?_
   refine At.rowOne (v := v2) (M4) (fun h1v => ?_)
   refine At.st1 rfl rfl sz_132 (.t rfl) (.t rfl) h1v rfl (.n U2) ⟨Cl.none, ?_⟩
   refine W ?_
   exact At.again3 (i + 1) (ps ++ [((gE its (i : Int)).key, ((gE its (i : Int)).data % 2097152 - 1))]) (v2) ⟨by omega, by rw [hi2]; exact (pairsD_yes (by omega) (by simpa using c4)).symm, by simp; omega⟩ (by omega) (.cons rfl (.cons rfl (.cons rfl (.cons rfl .nil)))) sl rfl
  ·
   refine W ?_
   exact At.again3 (i + 1) (ps) (pv) ⟨by omega, by rw [hi2]; exact (pairsD_no (by omega) (by simpa using c4)).symm, by omega⟩ (by omega) (.cons rfl (.cons rfl (.cons rfl (.cons rfl .nil)))) (List.Sublist.refl _) rfl
 ·
  refine U ?_
  refine eA rfl (R.loadAgg (vs := [_, _, _, _, _, _]) Tryz.underlying134 rfl sz_134 (.t rfl) (csS M4 ⟨rfl, rfl, rfl, rfl, rfl, rfl, trivial⟩)) ?_
  refine At.rowOne (v := pv) (M3) (fun h1v => ?_)
  refine At.stAll (vs := [.int .i64 0, .bool false, .int .i64 0, .int .i64 (-1), .int .i64 k.version, pv]) rfl rfl sz_134 (.t rfl) (.t rfl) (by simp only [List.all_cons, List.all_nil, h1v]; rfl) rfl rfl (.n U2) ⟨.all, ?_⟩
  refine W ?_
  refine At.reRow (v := pv) (xs' := pairsD its) .here (by rw [hi2, List.take_of_length_le (by omega)]) ?_
  exact At.final (N' := [rowE pK 174 pv (pairsD its)]) rfl (.a (vs := [_, _, _, _, _, _]) Tryz.underlying134 rfl sz_134 rfl (csS M5 ⟨rfl, rfl, rfl, rfl, rfl, rfl, trivial⟩)) sl (⟨pv, rfl, rfl, rfl⟩)
end Go.Proofs.YtbolanigdkgbdaaGreat
namespace Go.Proofs.YtbolanigdkgbdaaGreat
open Go Go.RowKit
set_option maxRecDepth 10000
set_option linter.unusedVariables false
theorem bt_237 : buildTab Tryz.prog 237 = some (#[.int .i64 0, .int .i64 0, .int .i64 0, .int .i64 0, .int .i64 0, .int .i64 0, .int .i64 0, .int .i64 0, .slice none 0 0], [(0, 1), (1, 1), (2, 1), (3, 1), (4, 1), (5, 1), (6, 1), (7, 1), (8, 1)]) := by kernel_rfl
theorem bt_239 : buildTab Tryz.prog 239 = some (#[.int .i64 0, .int .i64 0, .int .i64 0], [(0, 1), (1, 1), (2, 1)]) := by kernel_rfl
theorem et_237 : elemTab Tryz.prog 237 = some (9, 88) := by kernel_rfl
theorem et_239 : elemTab Tryz.prog 239 = some (3, 24) := by kernel_rfl
theorem fo_237_0 : fieldOff? Tryz.prog 237 0 = some 0 := by kernel_rfl
theorem fo_237_3 : fieldOff? Tryz.prog 237 3 = some 3 := by kernel_rfl
theorem fo_237_8 : fieldOff? Tryz.prog 237 8 = some 8 := by kernel_rfl
theorem sz_237 : (Tryz.prog.info? 237).map (·.size) = some 9 := by kernel_rfl
theorem sz_239 : (Tryz.prog.info? 239).map (·.size) = some 3 := by kernel_rfl
theorem ze_237 : (Tryz.prog.info? 237).bind (·.zero) = some (.agg #[.int .i64 0, .int .i64 0, .int .i64 0, .int .i64 0, .int .i64 0, .int .i64 0, .int .i64 0, .int .i64 0, .slice none 0 0]) := by kernel_rfl
theorem ze_239 : (Tryz.prog.info? 239).bind (·.zero) = some (.agg #[.int .i64 0, .int .i64 0, .int .i64 0]) := by kernel_rfl
theorem chunk_eq2 {cap i : Nat} {at_ after least nw : Int} {gs : List (Value × List Itm)} {v : SV} (hn : nw = max 0 (min (if i + 1 < gs.length then at_ + (i : Int) * (7 + 3 * (cap : Int)) + (7 + 3 * (cap : Int)) else after) 1073741824) * 2) (hi : i < gs.length) :
    (hd ⟨at_ + (i : Int) * (7 + 3 * (cap : Int)), gE (minsF least gs gs.length) (i : Int), ((gE gs (i : Int)).2.length : Int), nw, 0, 0, 0, 0, v⟩, cellsP cap (gE gs (i : Int)).2 (gE gs (i : Int)).2.length) = chunkS cap at_ after least (gs.map (fun x : Value × List Itm => x.2)) i := by
  unfold chunkS hd
  rw [minsF_at hi, snd_at, List.length_map, hn]
  have : (if i + 1 < gs.length then at_ + (i : Int) * (7 + 3 * (cap : Int)) + (7 + 3 * (cap : Int)) else after) = (if i + 1 = gs.length then after else at_ + (i : Int) * (7 + 3 * (cap : Int)) + (7 + 3 * (cap : Int))) := by
    by_cases h : i + 1 = gs.length
    · rw [if_pos h, if_neg (by omega)]
    · rw [if_neg h, if_pos (by omega)]
  rw [this]
  have e : ∀ x : Int, max 0 (min x 1073741824) * 2 = 2 * min (max x 0) 1073741824 := fun x => by omega
  rw [e]
theorem cellP_eq (x : Itm) : cellP x = ⟨max 0 (min x.ver 16777212) + 3, x.key, x.data⟩ := by
  unfold cellP
  have : min (max x.ver 0) 16777212 = max 0 (min x.ver 16777212) := by omega
  rw [this]
theorem c_rSize {th wd ver : Int} {cap : Nat} (hc : cap ≤ 16) : Fn Tryz.prog 110 [.agg #[.int .i64 th, .int .i64 (cap : Int), .int .i64 wd, .int .i64 ver]] [] [] (IsV (.int .i64 (7 + 3 * (cap : Int)))) := r_Size (by omega)
theorem c_rNext {s : Int} : Fn Tryz.prog 96 [.int .i64 s, .bool false] [] [] (IsV (.int .i64 (max 0 (min s 1073741824) * 2))) := by
  have h := r_Next (at_ := s) (m := false)
  rwa [show nextD s false = max 0 (min s 1073741824) * 2 by simp [nextD]] at h
theorem c_rState {s : Int} : Fn Tryz.prog 18 [.int .i64 s] [] [] (IsV (.int .i64 (max 0 (min s 16777212) + 3))) := by
  have h := r_State (s := s)
  rwa [show min (max s 0) 16777212 + 3 = max 0 (min s 16777212) + 3 by omega] at h
theorem c_rChunks {V : Value} {gs : List (Value × List Itm)} {th wd ver at_ after least : Int} {cap : Nat} (hL : gs.length ≤ 1000) (hc : 0 < cap ∧ cap ≤ 16) (hat : -2305843009213693952 ≤ at_ ∧ at_ ≤ 2305843009213693952) (haf : -2305843009213693952 ≤ after ∧ after ≤ 2305843009213693952) : Fn Tryz.prog 172 [.agg #[.int .i64 th, .int .i64 (cap : Int), .int .i64 wd, .int .i64 ver], .int .i64 at_, .int .i64 after, .int .i64 least, V] (nest iK V gs) [] (IsC 237 239 (chunksF cap at_ after least (gs.map (fun x : Value × List Itm => x.2)))) := by
 refine Fn.enter Tryz.func172 (by kernel_rfl) rfl (n := 100) rfl rfl (fun w => ?_)
 have hG : ∀ x ∈ gs, rdE iK x.1 x.2 ∈ nest iK V gs := fun x hx => .tail _ (List.mem_map.2 ⟨x, hx, rfl⟩)
 obtain ⟨hc1, hc2⟩ := hc
 have hml := minsF_len least gs gs.length
 refine W ?_
 refine At.box rfl rfl rfl (.t rfl) (fun b1 hb1 => ⟨.all, ?_⟩)
 refine W ?_
 refine At.callRF rfl rfl rfl (.k rfl (.k rfl .nil)) (Rds.ofNest (rS M0) (fun x hx => rS (List.mem_append_left _ (hG x hx)))) (c_rMins hL) (fun vm => ⟨.all, ?_⟩)
 refine W ?_
 refine At.nilRow chK 237 ?_
 refine At.loop3 (fun (i : Nat) (cs : List (Chk × List Cel)) (Vo : Value) => i ≤ gs.length ∧ cs.map (fun x => (hd x.1, x.2)) = (List.range i).map (chunkS cap at_ after least (gs.map (fun x : Value × List Itm => x.2))) ∧ (0 ≤ (i : Int) * (7 + 3 * (cap : Int)) ∧ (i : Int) * (7 + 3 * (cap : Int)) ≤ 55 * (i : Int)) ∧ (∀ j : Nat, j < i → (gE (gs.map (fun x : Value × List Itm => x.2)) (j : Int)).length ≤ cap) ∧ cs.length = i) (fun (i : Nat) (cs : List (Chk × List Cel)) (Vo : Value) => gs.length - i) (fun (i : Nat) (cs : List (Chk × List Cel)) (Vo : Value) => [(1, true, .int .i64 at_), (2, true, .int .i64 after), (4, true, V), (5, true, .pointer (some ⟨b1, 0, none⟩)), (11, true, vm), (12, true, Vo), (13, true, .int .i64 i)]) (fun (i : Nat) (cs : List (Chk × List Cel)) (Vo : Value) => rowE chK 237 Vo (cs.map (·.1)) :: rowE zK 3 vm (minsF least gs gs.length) :: .blk b1 (.cells #[.int .i64 th, .int .i64 (cap : Int), .int .i64 wd, .int .i64 ver] 23) :: csg 239 cs) (fun (i : Nat) (cs : List (Chk × List Cel)) (Vo : Value) => []) (0) ([]) (.slice none 0 0) ⟨Nat.zero_le _, rfl, by omega, fun j h => absurd h (Nat.not_lt_zero _), rfl⟩ (.cons rfl (.cons rfl (.cons rfl (.cons rfl (.cons rfl (.cons rfl (.cons rfl .nil))))))) (List.Sublist.refl _) rfl (fun i cs Vo hi => ?_)
 obtain ⟨hi1, hi2, hi4, hi5, hi6⟩ := hi
 refine Z ?_
 refine At.condD (.t rfl) (fun c1 => ?_) (fun c1 => ?_)
 ·
  refine W ?_
  refine At.drawK [tt 0, tt 1, tt 2, tt 3, tt 4, tt 5, tt 6, tt 7] (by kernel_rfl) (by kernel_rfl) ?_
  refine U ?_
  refine sJ rfl (R.indexRd Tryz.underlying202 sz_40 (.t rfl) (rK M0) (.t rfl) gO) ?_
  refine sJ rfl (R.loadRd Tryz.underlying40 rfl (.t rfl) (rK M0) (fun hg => by exact nestGet (by omega))) ?_
  refine sJ rfl (R.lenRd Tryz.underlying40 (.t rfl) (by exact nestK hG (by omega))) ?_
  refine U ?_
  refine sJ rfl (R.gtr (.t rfl) (.t rfl)) ?_
  refine U ?_
  refine At.condD (.t rfl) (fun c2 => ?_) (fun c2 => ?_)
  ·
   refine W ?_
   refine At.nilRow chK 237 ?_
   refine W ?_
   exact At.final (N' := [rowE chK 237 (.slice none 0 0) []]) rfl (.t rfl) sl (⟨[], chunks_none (i := i) (by rw [List.length_map]; omega) (by rw [snd_at]; exact c2), rfl, rfl⟩)
  ·
   refine W ?_
   refine At.drawB [tt 0, tt 1, tt 2, tt 6, tt 7, tt 8, tt 9, tt 10, tt 11, tt 12, tt 13, tt 14, tt 15, tt 17, tt 18] (.three 3 19 21 [tt 4, tt 5] (.three 16 19 21 [] (.two 19 21 [tt 20, ff 21, ff 22] .done [ff 19, tt 20, ff 22] .done) [] (.two 16 21 [tt 20, ff 21, ff 22] .done [ff 16, tt 20, ff 22] .done) [] (.two 16 19 [ff 19, tt 20, ff 22] .done [ff 16, tt 20, ff 22] .done)) [] (.two 3 21 [tt 4, tt 5] (.two 16 21 [tt 20, ff 21, ff 22] .done [ff 16, tt 20, ff 22] .done) [ff 3, tt 4, tt 5, ff 16, tt 20, ff 22] .done) [] (.two 3 19 [tt 4, tt 5] (.two 16 19 [ff 19, tt 20, ff 22] .done [ff 16, tt 20, ff 22] .done) [ff 3, tt 4, tt 5, ff 16, tt 20, ff 22] .done)) (by kernel_rfl) (by kernel_rfl) ?_
   refine U ?_
   refine sJ rfl (R.loadAgg (vs := [_, _, _, _]) Tryz.underlying23 rfl sz_23 (.t rfl) (csKN M2 ⟨rfl, rfl, rfl, rfl, trivial⟩)) ?_
   refine U ?_
   refine sJ rfl (R.indexRd Tryz.underlying25 sz_3 (.t rfl) (wKN M1) (.t rfl) gO) ?_
   refine sJ rfl (R.loadRd Tryz.underlying3 rfl (.t rfl) (wKN M1) (fun hg => by exact Ek.get0 rfl (by omega))) ?_
   refine U ?_
   refine sJ rfl (R.indexRd Tryz.underlying202 sz_40 (.t rfl) (rK M0) (.t rfl) gO) ?_
   refine sJ rfl (R.loadRd Tryz.underlying40 rfl (.t rfl) (rK M0) (fun hg => by exact nestGet (by omega))) ?_
   refine sJ rfl (R.lenRd Tryz.underlying40 (.t rfl) (by exact nestK hG (by omega))) ?_
   refine U ?_
   refine At.joinB (β := Value × Nat) (fun x => [(1, true, .int .i64 at_), (2, true, .int .i64 after), (4, true, V), (5, true, .pointer (some ⟨b1, 0, none⟩)), (11, true, vm), (12, true, Vo), (13, true, .int .i64 i), (14, true, .pointer (some ⟨x.2, 0, none⟩))]) (fun x => .blk x.2 (.cells #[.int .i64 (at_ + (i : Int) * (7 + 3 * (cap : Int))), .int .i64 (gE (minsF least gs gs.length) (i : Int)), .int .i64 ((gE gs (i : Int)).2.length : Int), .int .i64 (max 0 (min after 1073741824) * 2), .int .i64 0, .int .i64 0, .int .i64 0, .int .i64 0, x.1] 237) :: rowE cellK 239 x.1 (List.replicate cap ⟨0, 0, 0⟩) :: rowE chK 237 Vo (cs.map (·.1)) :: rowE zK 3 vm (minsF least gs gs.length) :: .blk b1 (.cells #[.int .i64 th, .int .i64 (cap : Int), .int .i64 wd, .int .i64 ver] 23) :: csg 239 cs) (fun x => ?_) (fun hj => ?_)
   ·
    obtain ⟨xv, xb⟩ := x; dsimp only; refine At.rowOne (v := xv) (List.mem_append_right _ M1) (fun h1x => ?_); refine At.rowForm (v := xv) (List.mem_append_right _ M1) (by simp; omega) (fun gx capx hvx => ?_); subst hvx
    refine Z ?_
    refine At.cut1 (fun (nw : Int) => nw = max 0 (min (if i + 1 < gs.length then at_ + (i : Int) * (7 + 3 * (cap : Int)) + (7 + 3 * (cap : Int)) else after) 1073741824) * 2) (fun (nw : Int) => [(1, true, .int .i64 at_), (2, true, .int .i64 after), (4, true, V), (5, true, .pointer (some ⟨b1, 0, none⟩)), (11, true, vm), (12, true, Vo), (13, true, .int .i64 i), (14, true, .pointer (some ⟨xb, 0, none⟩))]) (fun (nw : Int) => .blk xb (.cells #[.int .i64 (at_ + (i : Int) * (7 + 3 * (cap : Int))), .int .i64 (gE (minsF least gs gs.length) (i : Int)), .int .i64 ((gE gs (i : Int)).2.length : Int), .int .i64 (nw), .int .i64 0, .int .i64 0, .int .i64 0, .int .i64 0, (.slice (some ⟨gx, 0, none⟩) (List.replicate cap (⟨0, 0, 0⟩ : Cel)).length capx)] 237) :: rowE cellK 239 (.slice (some ⟨gx, 0, none⟩) (List.replicate cap (⟨0, 0, 0⟩ : Cel)).length capx) (List.replicate cap ⟨0, 0, 0⟩) :: rowE chK 237 Vo (cs.map (·.1)) :: rowE zK 3 vm (minsF least gs gs.length) :: .blk b1 (.cells #[.int .i64 th, .int .i64 (cap : Int), .int .i64 wd, .int .i64 ver] 23) :: csg 239 cs) (fun (nw : Int) => []) ?_ (fun nw hi => ?_)
    ·
     refine At.condD (.t rfl) (fun c3 => ?_) (fun c3 => ?_)
     ·
      refine At.drawL ([]) [tt 0] [tt 1, tt 2, ff 3, tt 4, ff 5, tt 6] [ff 7] (by (exact keepOf (List.nil_sublist _))) (by kernel_rfl) (by kernel_rfl) ?_
      refine sC rfl Cl.none (R.fieldAddr fo_237_0 (.t rfl)) ?_
      refine At.stage kI ?_
      refine W ?_
      refine At.callVR rfl rfl rfl (.k rfl .nil) (.nil) (fun hg => c_rSize (by omega)) kI ?_
      refine W ?_
      refine At.callVR rfl rfl rfl (.k rfl (.kc .nil)) (.nil) (fun hg => c_rNext (s := at_ + (i : Int) * (7 + 3 * (cap : Int)) + (7 + 3 * (cap : Int)))) kI ?_
      refine sJ rfl (R.fieldAddr fo_237_3 (.t rfl)) ?_
      refine At.stage Cl.none ?_
      refine At.st1 rfl rfl sz_3 (.t rfl) (.t rfl) rfl rfl (.n U0) ⟨Cl.none, ?_⟩
      refine W ?_
      exact At.mid1 (max 0 (min (at_ + (i : Int) * (7 + 3 * (cap : Int)) + (7 + 3 * (cap : Int))) 1073741824) * 2) (by rw [if_pos (by omega)]) (.cons rfl (.cons rfl (.cons rfl (.cons rfl (.cons rfl (.cons rfl (.cons rfl (.cons rfl .nil)))))))) (List.Sublist.refl _) rfl
     ·
      refine W ?_
      exact At.mid1 (max 0 (min after 1073741824) * 2) (by rw [if_neg (by omega)]) (.cons rfl (.cons rfl (.cons rfl (.cons rfl (.cons rfl (.cons rfl (.cons rfl (.cons rfl .nil)))))))) (List.Sublist.refl _) rfl
    ·
     have hnx := hi
     refine W ?_
     refine At.re (N' := .blk xb (.cells #[.int .i64 (at_ + (i : Int) * (7 + 3 * (cap : Int))), .int .i64 (gE (minsF least gs gs.length) (i : Int)), .int .i64 ((gE gs (i : Int)).2.length : Int), .int .i64 (nw), .int .i64 0, .int .i64 0, .int .i64 0, .int .i64 0, (.slice (some ⟨gx, 0, none⟩) (List.replicate cap (⟨0, 0, 0⟩ : Cel)).length capx)] 237) :: .row (.slice (some ⟨gx, 0, none⟩) (List.replicate cap (⟨0, 0, 0⟩ : Cel)).length capx) 239 3 ((List.replicate cap (⟨0, 0, 0⟩ : Cel)).length) (cellK.all (cellsP cap (gE gs (i : Int)).2 0)) :: rowE chK 237 Vo (cs.map (·.1)) :: rowE zK 3 vm (minsF least gs gs.length) :: .blk b1 (.cells #[.int .i64 th, .int .i64 (cap : Int), .int .i64 wd, .int .i64 ver] 23) :: csg 239 cs) (by rw [cellsP_zero]) ?_
     refine At.loop1 (fun (k : Nat) => k ≤ (gE gs (i : Int)).2.length) (fun (k : Nat) => (gE gs (i : Int)).2.length - k) (fun (k : Nat) => [(1, true, .int .i64 at_), (2, true, .int .i64 after), (4, true, V), (5, true, .pointer (some ⟨b1, 0, none⟩)), (11, true, vm), (12, true, Vo), (13, true, .int .i64 i), (14, true, .pointer (some ⟨xb, 0, none⟩)), (15, true, .int .i64 k)]) (fun (k : Nat) => .blk xb (.cells #[.int .i64 (at_ + (i : Int) * (7 + 3 * (cap : Int))), .int .i64 (gE (minsF least gs gs.length) (i : Int)), .int .i64 ((gE gs (i : Int)).2.length : Int), .int .i64 (nw), .int .i64 0, .int .i64 0, .int .i64 0, .int .i64 0, (.slice (some ⟨gx, 0, none⟩) (List.replicate cap (⟨0, 0, 0⟩ : Cel)).length capx)] 237) :: .row (.slice (some ⟨gx, 0, none⟩) (List.replicate cap (⟨0, 0, 0⟩ : Cel)).length capx) 239 3 ((List.replicate cap (⟨0, 0, 0⟩ : Cel)).length) (cellK.all (cellsP cap (gE gs (i : Int)).2 k)) :: rowE chK 237 Vo (cs.map (·.1)) :: rowE zK 3 vm (minsF least gs gs.length) :: .blk b1 (.cells #[.int .i64 th, .int .i64 (cap : Int), .int .i64 wd, .int .i64 ver] 23) :: csg 239 cs) (fun (k : Nat) => []) (0) (Nat.zero_le _) (.cons rfl (.cons rfl (.cons rfl (.cons rfl (.cons rfl (.cons rfl (.cons rfl (.cons rfl (.cons rfl .nil))))))))) (List.Sublist.refl _) rfl (fun k hi => ?_)
     have hM : (List.replicate cap (⟨0, 0, 0⟩ : Cel)).length = cap := List.length_replicate; have hcl : (cellsP cap (gE gs (i : Int)).2 k).length = (List.replicate cap (⟨0, 0, 0⟩ : Cel)).length := (by rw [cellsP_len hi (by omega), List.length_replicate])
     refine U ?_
     refine eA rfl (R.indexRd Tryz.underlying202 sz_40 (.t rfl) (rS M0) (.t rfl) gO) ?_
     refine eA rfl (R.loadRd Tryz.underlying40 rfl (.t rfl) (rS M0) (fun hg => by exact nestGet (by omega))) ?_
     refine eA rfl (R.lenRd Tryz.underlying40 (.t rfl) (by exact nestS hG (by omega))) ?_
     refine eA rfl (R.lss (.t rfl) (.t rfl)) ?_
     refine U ?_
     refine At.condD (.t rfl) (fun c4 => ?_) (fun c4 => ?_)
     ·
      refine U ?_
      refine eA rfl (R.indexRd Tryz.underlying202 sz_40 (.t rfl) (rS M0) (.t rfl) gO) ?_
      refine eA rfl (R.loadRd Tryz.underlying40 rfl (.t rfl) (rS M0) (fun hg => by exact nestGet (by omega))) ?_
      refine U ?_
      refine eA rfl (R.indexRd Tryz.underlying40 sz_43 (.t rfl) (by exact nestS hG (by omega)) (.t rfl) gO) ?_
      refine eA rfl (R.loadRdAgg (us := iK.enc _) Tryz.underlying43 rfl sz_43 (.t rfl) (by exact nestS hG (by omega)) gO (fun hg => by exact Ek.getA (by omega))) ?_
      refine At.alloc rfl rfl rfl ze_43 (fun b2 hb2 => ⟨.all, ?_⟩)
      refine At.stN rfl rfl sz_43 (.t rfl) (.t rfl) rfl rfl rfl (.n U0) ⟨.all, ?_⟩
      refine W ?_
      refine At.drawL ([]) [tt 0, tt 2, tt 3, tt 6, tt 8] [tt 1, tt 4, tt 7, tt 9, ff 5, tt 10, tt 11] [ff 12] (by (exact keepOf (List.nil_sublist _))) (by kernel_rfl) (by kernel_rfl) ?_
      refine sC rfl Cl.none (R.fieldAddr fo_237_8 (.t rfl)) ?_
      refine sC rfl Cl.none (R.move (.t rfl)) ?_
      refine sC rfl Cl.none (R.fieldAddr fo_43_1 (.t rfl)) ?_
      refine sC rfl Cl.none (R.fieldAddr fo_43_0 (.t rfl)) ?_
      refine sC rfl Cl.none (R.fieldAddr fo_43_2 (.t rfl)) ?_
      refine At.stage kI ?_
      refine W ?_
      refine At.callVR rfl rfl rfl (.k rfl .nil) (.nil) (fun hg => c_rState (s := (gE (gE gs (i : Int)).2 (k : Int)).ver)) kI ?_
      refine sJ rfl (R.build bt_239 (.k rfl (.k rfl (.k rfl .nil))) (.cons rfl (.cons rfl (.cons rfl .nil))) rfl) ?_
      refine sJ rfl (R.indexRd Tryz.underlying235 sz_239 (.t rfl) (wKN M2) (.t rfl) gO) ?_
      refine At.stage Cl.none ?_
      refine At.stRow (k := cellK) (y := ⟨max 0 (min (gE (gE gs (i : Int)).2 (k : Int)).ver 16777212) + 3, (gE (gE gs (i : Int)).2 (k : Int)).key, (gE (gE gs (i : Int)).2 (k : Int)).data⟩) rfl rfl sz_239 (.t rfl) (.t rfl) rfl (.n U2) (by omega) (by omega) ⟨Cl.none, ?_⟩
      refine W ?_
      refine At.re (N' := _ :: .blk xb (.cells #[.int .i64 (at_ + (i : Int) * (7 + 3 * (cap : Int))), .int .i64 (gE (minsF least gs gs.length) (i : Int)), .int .i64 ((gE gs (i : Int)).2.length : Int), .int .i64 (nw), .int .i64 0, .int .i64 0, .int .i64 0, .int .i64 0, (.slice (some ⟨gx, 0, none⟩) (List.replicate cap (⟨0, 0, 0⟩ : Cel)).length capx)] 237) :: .row (.slice (some ⟨gx, 0, none⟩) (List.replicate cap (⟨0, 0, 0⟩ : Cel)).length capx) 239 3 ((List.replicate cap (⟨0, 0, 0⟩ : Cel)).length) (cellK.all (cellsP cap (gE gs (i : Int)).2 (k + 1))) :: rowE chK 237 Vo (cs.map (·.1)) :: rowE zK 3 vm (minsF least gs gs.length) :: .blk b1 (.cells #[.int .i64 th, .int .i64 (cap : Int), .int .i64 wd, .int .i64 ver] 23) :: csg 239 cs) (by rw [← cellsP_step (by omega) (by omega), cellP_eq]) ?_
      refine W ?_
      exact At.again1 (k + 1) (by omega) (by omega) (.cons rfl (.cons rfl (.cons rfl (.cons rfl (.cons rfl (.cons rfl (.cons rfl (.cons rfl (.cons rfl .nil))))))))) sl rfl
     ·
      refine W ?_
      obtain rfl : k = (gE gs (i : Int)).2.length := (by omega)
      refine At.re (N' := .blk xb (.cells #[.int .i64 (at_ + (i : Int) * (7 + 3 * (cap : Int))), .int .i64 (gE (minsF least gs gs.length) (i : Int)), .int .i64 ((gE gs (i : Int)).2.length : Int), .int .i64 (nw), .int .i64 0, .int .i64 0, .int .i64 0, .int .i64 0, (.slice (some ⟨gx, 0, none⟩) (List.replicate cap (⟨0, 0, 0⟩ : Cel)).length capx)] 237) :: rowE cellK 239 (.slice (some ⟨gx, 0, none⟩) (List.replicate cap (⟨0, 0, 0⟩ : Cel)).length capx) (cellsP cap (gE gs (i : Int)).2 (gE gs (i : Int)).2.length) :: rowE chK 237 Vo (cs.map (·.1)) :: rowE zK 3 vm (minsF least gs gs.length) :: .blk b1 (.cells #[.int .i64 th, .int .i64 (cap : Int), .int .i64 wd, .int .i64 ver] 23) :: csg 239 cs) (by rw [row_cells (by omega)]) ?_
      refine U ?_
      refine eA rfl (R.loadAgg (vs := [_, _, _, _, _, _, _, _, _]) Tryz.underlying237 rfl sz_237 (.t rfl) (csN M0 ⟨rfl, rfl, rfl, rfl, rfl, rfl, rfl, rfl, rfl, trivial⟩)) ?_
      refine At.lit (k := chK) rfl rfl rfl Tryz.underlying221 et_237 (.k rfl .nil) (.cons (y := ⟨at_ + (i : Int) * (7 + 3 * (cap : Int)), (gE (minsF least gs gs.length) (i : Int)), ((gE gs (i : Int)).2.length : Int), nw, 0, 0, 0, 0, ⟨(.slice (some ⟨gx, 0, none⟩) (List.replicate cap (⟨0, 0, 0⟩ : Cel)).length capx), h1x⟩⟩) rfl .nil) rfl rfl rfl (fun v1 => ⟨.all, ?_⟩)
      refine At.app (k := chK) rfl rfl rfl Tryz.underlying221 et_237 (.t rfl) (.t rfl) (fun _ => by (exact U3)) (wN M0) (by (simp <;> omega)) (fun v2 => ⟨.all, ?_⟩)
      refine W ?_
      refine At.weak (fun _ _ h => h) (N' := rowE cellK 239 (.slice (some ⟨gx, 0, none⟩) (List.replicate cap (⟨0, 0, 0⟩ : Cel)).length capx) (cellsP cap (gE gs (i : Int)).2 (gE gs (i : Int)).2.length) :: ([rowE chK 237 v2 (cs.map (·.1) ++ [⟨at_ + (i : Int) * (7 + 3 * (cap : Int)), (gE (minsF least gs gs.length) (i : Int)), ((gE gs (i : Int)).2.length : Int), nw, 0, 0, 0, 0, ⟨(.slice (some ⟨gx, 0, none⟩) (List.replicate cap (⟨0, 0, 0⟩ : Cel)).length capx), h1x⟩⟩]), rowE zK 3 vm (minsF least gs gs.length), .blk b1 (.cells #[.int .i64 th, .int .i64 (cap : Int), .int .i64 wd, .int .i64 ver] 23)] ++ csg 239 cs)) sl ?_
      refine W ?_
      refine At.csNew (A := [rowE chK 237 v2 (cs.map (·.1) ++ [⟨at_ + (i : Int) * (7 + 3 * (cap : Int)), (gE (minsF least gs gs.length) (i : Int)), ((gE gs (i : Int)).2.length : Int), nw, 0, 0, 0, 0, ⟨(.slice (some ⟨gx, 0, none⟩) (List.replicate cap (⟨0, 0, 0⟩ : Cel)).length capx), h1x⟩⟩]), rowE zK 3 vm (minsF least gs gs.length), .blk b1 (.cells #[.int .i64 th, .int .i64 (cap : Int), .int .i64 wd, .int .i64 ver] 23)]) (x := ⟨at_ + (i : Int) * (7 + 3 * (cap : Int)), (gE (minsF least gs gs.length) (i : Int)), ((gE gs (i : Int)).2.length : Int), nw, 0, 0, 0, 0, ⟨(.slice (some ⟨gx, 0, none⟩) (List.replicate cap (⟨0, 0, 0⟩ : Cel)).length capx), h1x⟩⟩) (ys := cellsP cap (gE gs (i : Int)).2 (gE gs (i : Int)).2.length) ?_
      refine At.re (N' := rowE chK 237 v2 ((cs ++ [((⟨at_ + (i : Int) * (7 + 3 * (cap : Int)), (gE (minsF least gs gs.length) (i : Int)), ((gE gs (i : Int)).2.length : Int), nw, 0, 0, 0, 0, ⟨(.slice (some ⟨gx, 0, none⟩) (List.replicate cap (⟨0, 0, 0⟩ : Cel)).length capx), h1x⟩⟩ : Chk), cellsP cap (gE gs (i : Int)).2 (gE gs (i : Int)).2.length)]).map (·.1)) :: rowE zK 3 vm (minsF least gs gs.length) :: .blk b1 (.cells #[.int .i64 th, .int .i64 (cap : Int), .int .i64 wd, .int .i64 ver] 23) :: csg 239 (cs ++ [((⟨at_ + (i : Int) * (7 + 3 * (cap : Int)), (gE (minsF least gs gs.length) (i : Int)), ((gE gs (i : Int)).2.length : Int), nw, 0, 0, 0, 0, ⟨(.slice (some ⟨gx, 0, none⟩) (List.replicate cap (⟨0, 0, 0⟩ : Cel)).length capx), h1x⟩⟩ : Chk), cellsP cap (gE gs (i : Int)).2 (gE gs (i : Int)).2.length)])) (by rw [List.map_append]; rfl) ?_
      refine W ?_
      exact At.again3 (i + 1) ((cs ++ [((⟨at_ + (i : Int) * (7 + 3 * (cap : Int)), (gE (minsF least gs gs.length) (i : Int)), ((gE gs (i : Int)).2.length : Int), nw, 0, 0, 0, 0, ⟨(.slice (some ⟨gx, 0, none⟩) (List.replicate cap (⟨0, 0, 0⟩ : Cel)).length capx), h1x⟩⟩ : Chk), cellsP cap (gE gs (i : Int)).2 (gE gs (i : Int)).2.length)])) (v2) ⟨by omega, by rw [List.map_append, hi2, range_snoc]; exact congrArg (fun z => _ ++ [z]) (chunk_eq2 hnx (by omega)), by rw [mul_step]; omega, fun j h => by (rcases Nat.lt_or_ge j i with h1 | h1); exact hi5 j h1; (have : j = i := (by omega)); subst this; rw [snd_at]; omega, by simp; omega⟩ (by omega) (.cons rfl (.cons rfl (.cons rfl (.cons rfl (.cons rfl (.cons rfl (.cons rfl .nil))))))) (List.Sublist.refl _) rfl
   ·
    refine At.three ?_ ?_ ?_
    ·
     refine At.callVR rfl rfl rfl (.k rfl .nil) (.nil) (fun hg => c_rSize (by omega)) kI ?_
     refine W ?_
     refine At.three ?_ ?_ ?_
     ·
      refine At.callVR rfl rfl rfl (.k rfl (.kc .nil)) (.nil) (fun hg => c_rNext (s := after)) kI ?_
      refine W ?_
      refine At.two ?_ ?_
      ·
       refine At.makeSl (k := cellK) (z := ⟨0, 0, 0⟩) rfl rfl rfl Tryz.underlying235 et_239 ze_239 rfl (.t rfl) (.t rfl) (by refine ⟨?_, ?_⟩ <;> first | omega | (simp; omega)) (fun v1 => ⟨kz, ?_⟩)
       refine At.rowOne (v := v1) (List.mem_append_right _ M0) (fun h1v => ?_)
       refine sC rfl kz (R.build (cs := [.int .i64 (at_ + (i : Int) * (7 + 3 * (cap : Int))), .int .i64 (gE (minsF least gs gs.length) (i : Int)), .int .i64 ((gE gs (i : Int)).2.length : Int), .int .i64 (max 0 (min after 1073741824) * 2), .int .i64 0, .int .i64 0, .int .i64 0, .int .i64 0, v1]) bt_237 (.k rfl (.k rfl (.k rfl (.k rfl (.k rfl .nil))))) (.cons rfl (.cons rfl (.cons rfl (.cons rfl (.cons (c := [_]) (cells_one h1v) .nil))))) rfl) ?_
       refine At.alloc rfl rfl rfl ze_237 (fun b2 hb2 => ⟨kz, ?_⟩)
       refine At.rowOne (v := v1) (List.mem_append_right _ M1) (fun h1v => ?_)
       refine At.stAll (vs := [.int .i64 (at_ + (i : Int) * (7 + 3 * (cap : Int))), .int .i64 (gE (minsF least gs gs.length) (i : Int)), .int .i64 ((gE gs (i : Int)).2.length : Int), .int .i64 (max 0 (min after 1073741824) * 2), .int .i64 0, .int .i64 0, .int .i64 0, .int .i64 0, v1]) rfl rfl sz_237 (.t rfl) (.t rfl) (hone9 h1v) rfl rfl (.n U0) ⟨kz, ?_⟩
       refine W ?_
       refine At.brDone ?_
       exact hj (v1, b2) _ _ (Sub.look (.cons rfl (.cons rfl (.cons rfl (.cons rfl (.cons rfl (.cons rfl (.cons rfl (.cons rfl .nil))))))))) (List.Sublist.refl _)
      ·
       refine At.alloc rfl rfl rfl ze_237 (fun b2 hb2 => ⟨kz, ?_⟩)
       refine At.makeSl (k := cellK) (z := ⟨0, 0, 0⟩) rfl rfl rfl Tryz.underlying235 et_239 ze_239 rfl (.t rfl) (.t rfl) (by refine ⟨?_, ?_⟩ <;> first | omega | (simp; omega)) (fun v1 => ⟨kz, ?_⟩)
       refine At.rowOne (v := v1) (List.mem_append_right _ M0) (fun h1v => ?_)
       refine sC rfl kz (R.build (cs := [.int .i64 (at_ + (i : Int) * (7 + 3 * (cap : Int))), .int .i64 (gE (minsF least gs gs.length) (i : Int)), .int .i64 ((gE gs (i : Int)).2.length : Int), .int .i64 (max 0 (min after 1073741824) * 2), .int .i64 0, .int .i64 0, .int .i64 0, .int .i64 0, v1]) bt_237 (.k rfl (.k rfl (.k rfl (.k rfl (.k rfl .nil))))) (.cons rfl (.cons rfl (.cons rfl (.cons rfl (.cons (c := [_]) (cells_one h1v) .nil))))) rfl) ?_
       refine At.rowOne (v := v1) (List.mem_append_right _ M0) (fun h1v => ?_)
       refine At.stAll (vs := [.int .i64 (at_ + (i : Int) * (7 + 3 * (cap : Int))), .int .i64 (gE (minsF least gs gs.length) (i : Int)), .int .i64 ((gE gs (i : Int)).2.length : Int), .int .i64 (max 0 (min after 1073741824) * 2), .int .i64 0, .int .i64 0, .int .i64 0, .int .i64 0, v1]) rfl rfl sz_237 (.t rfl) (.t rfl) (hone9 h1v) rfl rfl (.n U1) ⟨kz, ?_⟩
       refine W ?_
       refine At.brDone ?_
       refine At.perm (List.Perm.swap _ _ _) ?_
       exact hj (v1, b2) _ _ (Sub.look (.cons rfl (.cons rfl (.cons rfl (.cons rfl (.cons rfl (.cons rfl (.cons rfl (.cons rfl .nil))))))))) (List.Sublist.refl _)
     ·
      refine At.makeSl (k := cellK) (z := ⟨0, 0, 0⟩) rfl rfl rfl Tryz.underlying235 et_239 ze_239 rfl (.t rfl) (.t rfl) (by refine ⟨?_, ?_⟩ <;> first | omega | (simp; omega)) (fun v1 => ⟨kz, ?_⟩)
      refine W ?_
      refine At.two ?_ ?_
      ·
       refine At.callVR rfl rfl rfl (.k rfl (.kc .nil)) (.nil) (fun hg => c_rNext (s := after)) kz ?_
       refine At.rowOne (v := v1) (List.mem_append_right _ M0) (fun h1v => ?_)
       refine sC rfl kz (R.build (cs := [.int .i64 (at_ + (i : Int) * (7 + 3 * (cap : Int))), .int .i64 (gE (minsF least gs gs.length) (i : Int)), .int .i64 ((gE gs (i : Int)).2.length : Int), .int .i64 (max 0 (min after 1073741824) * 2), .int .i64 0, .int .i64 0, .int .i64 0, .int .i64 0, v1]) bt_237 (.k rfl (.k rfl (.k rfl (.k rfl (.k rfl .nil))))) (.cons rfl (.cons rfl (.cons rfl (.cons rfl (.cons (c := [_]) (cells_one h1v) .nil))))) rfl) ?_
       refine At.alloc rfl rfl rfl ze_237 (fun b2 hb2 => ⟨kz, ?_⟩)
       refine At.rowOne (v := v1) (List.mem_append_right _ M1) (fun h1v => ?_)
       refine At.stAll (vs := [.int .i64 (at_ + (i : Int) * (7 + 3 * (cap : Int))), .int .i64 (gE (minsF least gs gs.length) (i : Int)), .int .i64 ((gE gs (i : Int)).2.length : Int), .int .i64 (max 0 (min after 1073741824) * 2), .int .i64 0, .int .i64 0, .int .i64 0, .int .i64 0, v1]) rfl rfl sz_237 (.t rfl) (.t rfl) (hone9 h1v) rfl rfl (.n U0) ⟨kz, ?_⟩
       refine W ?_
       refine At.brDone ?_
       exact hj (v1, b2) _ _ (Sub.look (.cons rfl (.cons rfl (.cons rfl (.cons rfl (.cons rfl (.cons rfl (.cons rfl (.cons rfl .nil))))))))) (List.Sublist.refl _)
      ·
       refine At.alloc rfl rfl rfl ze_237 (fun b2 hb2 => ⟨kz, ?_⟩)
       refine At.callVR rfl rfl rfl (.k rfl (.kc .nil)) (.nil) (fun hg => c_rNext (s := after)) kz ?_
       refine At.rowOne (v := v1) (List.mem_append_right _ M1) (fun h1v => ?_)
       refine sC rfl kz (R.build (cs := [.int .i64 (at_ + (i : Int) * (7 + 3 * (cap : Int))), .int .i64 (gE (minsF least gs gs.length) (i : Int)), .int .i64 ((gE gs (i : Int)).2.length : Int), .int .i64 (max 0 (min after 1073741824) * 2), .int .i64 0, .int .i64 0, .int .i64 0, .int .i64 0, v1]) bt_237 (.k rfl (.k rfl (.k rfl (.k rfl (.k rfl .nil))))) (.cons rfl (.cons rfl (.cons rfl (.cons rfl (.cons (c := [_]) (cells_one h1v) .nil))))) rfl) ?_
       refine At.rowOne (v := v1) (List.mem_append_right _ M1) (fun h1v => ?_)
       refine At.stAll (vs := [.int .i64 (at_ + (i : Int) * (7 + 3 * (cap : Int))), .int .i64 (gE (minsF least gs gs.length) (i : Int)), .int .i64 ((gE gs (i : Int)).2.length : Int), .int .i64 (max 0 (min after 1073741824) * 2), .int .i64 0, .int .i64 0, .int .i64 0, .int .i64 0, v1]) rfl rfl sz_237 (.t rfl) (.t rfl) (hone9 h1v) rfl rfl (.n U0) ⟨kz, ?_⟩
       refine W ?_
       refine At.brDone ?_
       exact hj (v1, b2) _ _ (Sub.look (.cons rfl (.cons rfl (.cons rfl (.cons rfl (.cons rfl (.cons rfl (.cons rfl (.cons rfl .nil))))))))) (List.Sublist.refl _)
     ·
      refine At.alloc rfl rfl rfl ze_237 (fun b2 hb2 => ⟨kz, ?_⟩)
      refine W ?_
      refine At.two ?_ ?_
      ·
       refine At.callVR rfl rfl rfl (.k rfl (.kc .nil)) (.nil) (fun hg => c_rNext (s := after)) kz ?_
       refine At.makeSl (k := cellK) (z := ⟨0, 0, 0⟩) rfl rfl rfl Tryz.underlying235 et_239 ze_239 rfl (.t rfl) (.t rfl) (by refine ⟨?_, ?_⟩ <;> first | omega | (simp; omega)) (fun v1 => ⟨kz, ?_⟩)
       refine At.rowOne (v := v1) (List.mem_append_right _ M0) (fun h1v => ?_)
       refine sC rfl kz (R.build (cs := [.int .i64 (at_ + (i : Int) * (7 + 3 * (cap : Int))), .int .i64 (gE (minsF least gs gs.length) (i : Int)), .int .i64 ((gE gs (i : Int)).2.length : Int), .int .i64 (max 0 (min after 1073741824) * 2), .int .i64 0, .int .i64 0, .int .i64 0, .int .i64 0, v1]) bt_237 (.k rfl (.k rfl (.k rfl (.k rfl (.k rfl .nil))))) (.cons rfl (.cons rfl (.cons rfl (.cons rfl (.cons (c := [_]) (cells_one h1v) .nil))))) rfl) ?_
       refine At.rowOne (v := v1) (List.mem_append_right _ M0) (fun h1v => ?_)
       refine At.stAll (vs := [.int .i64 (at_ + (i : Int) * (7 + 3 * (cap : Int))), .int .i64 (gE (minsF least gs gs.length) (i : Int)), .int .i64 ((gE gs (i : Int)).2.length : Int), .int .i64 (max 0 (min after 1073741824) * 2), .int .i64 0, .int .i64 0, .int .i64 0, .int .i64 0, v1]) rfl rfl sz_237 (.t rfl) (.t rfl) (hone9 h1v) rfl rfl (.n U1) ⟨kz, ?_⟩
       refine W ?_
       refine At.brDone ?_
       refine At.perm (List.Perm.swap _ _ _) ?_
       exact hj (v1, b2) _ _ (Sub.look (.cons rfl (.cons rfl (.cons rfl (.cons rfl (.cons rfl (.cons rfl (.cons rfl (.cons rfl .nil))))))))) (List.Sublist.refl _)
      ·
       refine At.makeSl (k := cellK) (z := ⟨0, 0, 0⟩) rfl rfl rfl Tryz.underlying235 et_239 ze_239 rfl (.t rfl) (.t rfl) (by refine ⟨?_, ?_⟩ <;> first | omega | (simp; omega)) (fun v1 => ⟨kz, ?_⟩)
       refine At.callVR rfl rfl rfl (.k rfl (.kc .nil)) (.nil) (fun hg => c_rNext (s := after)) kz ?_
       refine At.rowOne (v := v1) (List.mem_append_right _ M0) (fun h1v => ?_)
       refine sC rfl kz (R.build (cs := [.int .i64 (at_ + (i : Int) * (7 + 3 * (cap : Int))), .int .i64 (gE (minsF least gs gs.length) (i : Int)), .int .i64 ((gE gs (i : Int)).2.length : Int), .int .i64 (max 0 (min after 1073741824) * 2), .int .i64 0, .int .i64 0, .int .i64 0, .int .i64 0, v1]) bt_237 (.k rfl (.k rfl (.k rfl (.k rfl (.k rfl .nil))))) (.cons rfl (.cons rfl (.cons rfl (.cons rfl (.cons (c := [_]) (cells_one h1v) .nil))))) rfl) ?_
       refine At.rowOne (v := v1) (List.mem_append_right _ M0) (fun h1v => ?_)
       refine At.stAll (vs := [.int .i64 (at_ + (i : Int) * (7 + 3 * (cap : Int))), .int .i64 (gE (minsF least gs gs.length) (i : Int)), .int .i64 ((gE gs (i : Int)).2.length : Int), .int .i64 (max 0 (min after 1073741824) * 2), .int .i64 0, .int .i64 0, .int .i64 0, .int .i64 0, v1]) rfl rfl sz_237 (.t rfl) (.t rfl) (hone9 h1v) rfl rfl (.n U1) ⟨kz, ?_⟩
       refine W ?_
       refine At.brDone ?_
       refine At.perm (List.Perm.swap _ _ _) ?_
       exact hj (v1, b2) _ _ (Sub.look (.cons rfl (.cons rfl (.cons rfl (.cons rfl (.cons rfl (.cons rfl (.cons rfl (.cons rfl .nil))))))))) (List.Sublist.refl _)
    ·
     refine At.makeSl (k := cellK) (z := ⟨0, 0, 0⟩) rfl rfl rfl Tryz.underlying235 et_239 ze_239 rfl (.t rfl) (.t rfl) (by refine ⟨?_, ?_⟩ <;> first | omega | (simp; omega)) (fun v1 => ⟨kz, ?_⟩)
     refine W ?_
     refine At.two ?_ ?_
     ·
      refine At.callVR rfl rfl rfl (.k rfl .nil) (.nil) (fun hg => c_rSize (by omega)) kz ?_
      refine W ?_
      refine At.two ?_ ?_
      ·
       refine At.callVR rfl rfl rfl (.k rfl (.kc .nil)) (.nil) (fun hg => c_rNext (s := after)) kz ?_
       refine At.rowOne (v := v1) (List.mem_append_right _ M0) (fun h1v => ?_)
       refine sC rfl kz (R.build (cs := [.int .i64 (at_ + (i : Int) * (7 + 3 * (cap : Int))), .int .i64 (gE (minsF least gs gs.length) (i : Int)), .int .i64 ((gE gs (i : Int)).2.length : Int), .int .i64 (max 0 (min after 1073741824) * 2), .int .i64 0, .int .i64 0, .int .i64 0, .int .i64 0, v1]) bt_237 (.k rfl (.k rfl (.k rfl (.k rfl (.k rfl .nil))))) (.cons rfl (.cons rfl (.cons rfl (.cons rfl (.cons (c := [_]) (cells_one h1v) .nil))))) rfl) ?_
       refine At.alloc rfl rfl rfl ze_237 (fun b2 hb2 => ⟨kz, ?_⟩)
       refine At.rowOne (v := v1) (List.mem_append_right _ M1) (fun h1v => ?_)
       refine At.stAll (vs := [.int .i64 (at_ + (i : Int) * (7 + 3 * (cap : Int))), .int .i64 (gE (minsF least gs gs.length) (i : Int)), .int .i64 ((gE gs (i : Int)).2.length : Int), .int .i64 (max 0 (min after 1073741824) * 2), .int .i64 0, .int .i64 0, .int .i64 0, .int .i64 0, v1]) rfl rfl sz_237 (.t rfl) (.t rfl) (hone9 h1v) rfl rfl (.n U0) ⟨kz, ?_⟩
       refine W ?_
       refine At.brDone ?_
       exact hj (v1, b2) _ _ (Sub.look (.cons rfl (.cons rfl (.cons rfl (.cons rfl (.cons rfl (.cons rfl (.cons rfl (.cons rfl .nil))))))))) (List.Sublist.refl _)
      ·
       refine At.alloc rfl rfl rfl ze_237 (fun b2 hb2 => ⟨kz, ?_⟩)
       refine At.callVR rfl rfl rfl (.k rfl (.kc .nil)) (.nil) (fun hg => c_rNext (s := after)) kz ?_
       refine At.rowOne (v := v1) (List.mem_append_right _ M1) (fun h1v => ?_)
       refine sC rfl kz (R.build (cs := [.int .i64 (at_ + (i : Int) * (7 + 3 * (cap : Int))), .int .i64 (gE (minsF least gs gs.length) (i : Int)), .int .i64 ((gE gs (i : Int)).2.length : Int), .int .i64 (max 0 (min after 1073741824) * 2), .int .i64 0, .int .i64 0, .int .i64 0, .int .i64 0, v1]) bt_237 (.k rfl (.k rfl (.k rfl (.k rfl (.k rfl .nil))))) (.cons rfl (.cons rfl (.cons rfl (.cons rfl (.cons (c := [_]) (cells_one h1v) .nil))))) rfl) ?_
       refine At.rowOne (v := v1) (List.mem_append_right _ M1) (fun h1v => ?_)
       refine At.stAll (vs := [.int .i64 (at_ + (i : Int) * (7 + 3 * (cap : Int))), .int .i64 (gE (minsF least gs gs.length) (i : Int)), .int .i64 ((gE gs (i : Int)).2.length : Int), .int .i64 (max 0 (min after 1073741824) * 2), .int .i64 0, .int .i64 0, .int .i64 0, .int .i64 0, v1]) rfl rfl sz_237 (.t rfl) (.t rfl) (hone9 h1v) rfl rfl (.n U0) ⟨kz, ?_⟩
       refine W ?_
       refine At.brDone ?_
       exact hj (v1, b2) _ _ (Sub.look (.cons rfl (.cons rfl (.cons rfl (.cons rfl (.cons rfl (.cons rfl (.cons rfl (.cons rfl .nil))))))))) (List.Sublist.refl _)
     ·
      refine At.alloc rfl rfl rfl ze_237 (fun b2 hb2 => ⟨kz, ?_⟩)
      refine At.callVR rfl rfl rfl (.k rfl .nil) (.nil) (fun hg => c_rSize (by omega)) kz ?_
      refine W ?_
      refine At.callVR rfl rfl rfl (.k rfl (.kc .nil)) (.nil) (fun hg => c_rNext (s := after)) kz ?_
      refine At.rowOne (v := v1) (List.mem_append_right _ M1) (fun h1v => ?_)
      refine sC rfl kz (R.build (cs := [.int .i64 (at_ + (i : Int) * (7 + 3 * (cap : Int))), .int .i64 (gE (minsF least gs gs.length) (i : Int)), .int .i64 ((gE gs (i : Int)).2.length : Int), .int .i64 (max 0 (min after 1073741824) * 2), .int .i64 0, .int .i64 0, .int .i64 0, .int .i64 0, v1]) bt_237 (.k rfl (.k rfl (.k rfl (.k rfl (.k rfl .nil))))) (.cons rfl (.cons rfl (.cons rfl (.cons rfl (.cons (c := [_]) (cells_one h1v) .nil))))) rfl) ?_
      refine At.rowOne (v := v1) (List.mem_append_right _ M1) (fun h1v => ?_)
      refine At.stAll (vs := [.int .i64 (at_ + (i : Int) * (7 + 3 * (cap : Int))), .int .i64 (gE (minsF least gs gs.length) (i : Int)), .int .i64 ((gE gs (i : Int)).2.length : Int), .int .i64 (max 0 (min after 1073741824) * 2), .int .i64 0, .int .i64 0, .int .i64 0, .int .i64 0, v1]) rfl rfl sz_237 (.t rfl) (.t rfl) (hone9 h1v) rfl rfl (.n U0) ⟨kz, ?_⟩
      refine W ?_
      refine At.brDone ?_
      exact hj (v1, b2) _ _ (Sub.look (.cons rfl (.cons rfl (.cons rfl (.cons rfl (.cons rfl (.cons rfl (.cons rfl (.cons rfl .nil))))))))) (List.Sublist.refl _)
    ·
     refine At.alloc rfl rfl rfl ze_237 (fun b2 hb2 => ⟨kz, ?_⟩)
     refine W ?_
     refine At.two ?_ ?_
     ·
      refine At.callVR rfl rfl rfl (.k rfl .nil) (.nil) (fun hg => c_rSize (by omega)) kz ?_
      refine W ?_
      refine At.two ?_ ?_
      ·
       refine At.callVR rfl rfl rfl (.k rfl (.kc .nil)) (.nil) (fun hg => c_rNext (s := after)) kz ?_
       refine At.makeSl (k := cellK) (z := ⟨0, 0, 0⟩) rfl rfl rfl Tryz.underlying235 et_239 ze_239 rfl (.t rfl) (.t rfl) (by refine ⟨?_, ?_⟩ <;> first | omega | (simp; omega)) (fun v1 => ⟨kz, ?_⟩)
       refine At.rowOne (v := v1) (List.mem_append_right _ M0) (fun h1v => ?_)
       refine sC rfl kz (R.build (cs := [.int .i64 (at_ + (i : Int) * (7 + 3 * (cap : Int))), .int .i64 (gE (minsF least gs gs.length) (i : Int)), .int .i64 ((gE gs (i : Int)).2.length : Int), .int .i64 (max 0 (min after 1073741824) * 2), .int .i64 0, .int .i64 0, .int .i64 0, .int .i64 0, v1]) bt_237 (.k rfl (.k rfl (.k rfl (.k rfl (.k rfl .nil))))) (.cons rfl (.cons rfl (.cons rfl (.cons rfl (.cons (c := [_]) (cells_one h1v) .nil))))) rfl) ?_
       refine At.rowOne (v := v1) (List.mem_append_right _ M0) (fun h1v => ?_)
       refine At.stAll (vs := [.int .i64 (at_ + (i : Int) * (7 + 3 * (cap : Int))), .int .i64 (gE (minsF least gs gs.length) (i : Int)), .int .i64 ((gE gs (i : Int)).2.length : Int), .int .i64 (max 0 (min after 1073741824) * 2), .int .i64 0, .int .i64 0, .int .i64 0, .int .i64 0, v1]) rfl rfl sz_237 (.t rfl) (.t rfl) (hone9 h1v) rfl rfl (.n U1) ⟨kz, ?_⟩
       refine W ?_
       refine At.brDone ?_
       refine At.perm (List.Perm.swap _ _ _) ?_
       exact hj (v1, b2) _ _ (Sub.look (.cons rfl (.cons rfl (.cons rfl (.cons rfl (.cons rfl (.cons rfl (.cons rfl (.cons rfl .nil))))))))) (List.Sublist.refl _)
      ·
       refine At.makeSl (k := cellK) (z := ⟨0, 0, 0⟩) rfl rfl rfl Tryz.underlying235 et_239 ze_239 rfl (.t rfl) (.t rfl) (by refine ⟨?_, ?_⟩ <;> first | omega | (simp; omega)) (fun v1 => ⟨kz, ?_⟩)
       refine At.callVR rfl rfl rfl (.k rfl (.kc .nil)) (.nil) (fun hg => c_rNext (s := after)) kz ?_
       refine At.rowOne (v := v1) (List.mem_append_right _ M0) (fun h1v => ?_)
       refine sC rfl kz (R.build (cs := [.int .i64 (at_ + (i : Int) * (7 + 3 * (cap : Int))), .int .i64 (gE (minsF least gs gs.length) (i : Int)), .int .i64 ((gE gs (i : Int)).2.length : Int), .int .i64 (max 0 (min after 1073741824) * 2), .int .i64 0, .int .i64 0, .int .i64 0, .int .i64 0, v1]) bt_237 (.k rfl (.k rfl (.k rfl (.k rfl (.k rfl .nil))))) (.cons rfl (.cons rfl (.cons rfl (.cons rfl (.cons (c := [_]) (cells_one h1v) .nil))))) rfl) ?_
       refine At.rowOne (v := v1) (List.mem_append_right _ M0) (fun h1v => ?_)
       refine At.stAll (vs := [.int .i64 (at_ + (i : Int) * (7 + 3 * (cap : Int))), .int .i64 (gE (minsF least gs gs.length) (i : Int)), .int .i64 ((gE gs (i : Int)).2.length : Int), .int .i64 (max 0 (min after 1073741824) * 2), .int .i64 0, .int .i64 0, .int .i64 0, .int .i64 0, v1]) rfl rfl sz_237 (.t rfl) (.t rfl) (hone9 h1v) rfl rfl (.n U1) ⟨kz, ?_⟩
       refine W ?_
       refine At.brDone ?_
       refine At.perm (List.Perm.swap _ _ _) ?_
       exact hj (v1, b2) _ _ (Sub.look (.cons rfl (.cons rfl (.cons rfl (.cons rfl (.cons rfl (.cons rfl (.cons rfl (.cons rfl .nil))))))))) (List.Sublist.refl _)
     ·
      refine At.makeSl (k := cellK) (z := ⟨0, 0, 0⟩) rfl rfl rfl Tryz.underlying235 et_239 ze_239 rfl (.t rfl) (.t rfl) (by refine ⟨?_, ?_⟩ <;> first | omega | (simp; omega)) (fun v1 => ⟨kz, ?_⟩)
      refine At.callVR rfl rfl rfl (.k rfl .nil) (.nil) (fun hg => c_rSize (by omega)) kz ?_
      refine W ?_
      refine At.callVR rfl rfl rfl (.k rfl (.kc .nil)) (.nil) (fun hg => c_rNext (s := after)) kz ?_
      refine At.rowOne (v := v1) (List.mem_append_right _ M0) (fun h1v => ?_)
      refine sC rfl kz (R.build (cs := [.int .i64 (at_ + (i : Int) * (7 + 3 * (cap : Int))), .int .i64 (gE (minsF least gs gs.length) (i : Int)), .int .i64 ((gE gs (i : Int)).2.length : Int), .int .i64 (max 0 (min after 1073741824) * 2), .int .i64 0, .int .i64 0, .int .i64 0, .int .i64 0, v1]) bt_237 (.k rfl (.k rfl (.k rfl (.k rfl (.k rfl .nil))))) (.cons rfl (.cons rfl (.cons rfl (.cons rfl (.cons (c := [_]) (cells_one h1v) .nil))))) rfl) ?_
      refine At.rowOne (v := v1) (List.mem_append_right _ M0) (fun h1v => ?_)
      refine At.stAll (vs := [.int .i64 (at_ + (i : Int) * (7 + 3 * (cap : Int))), .int .i64 (gE (minsF least gs gs.length) (i : Int)), .int .i64 ((gE gs (i : Int)).2.length : Int), .int .i64 (max 0 (min after 1073741824) * 2), .int .i64 0, .int .i64 0, .int .i64 0, .int .i64 0, v1]) rfl rfl sz_237 (.t rfl) (.t rfl) (hone9 h1v) rfl rfl (.n U1) ⟨kz, ?_⟩
      refine W ?_
      refine At.brDone ?_
      refine At.perm (List.Perm.swap _ _ _) ?_
      exact hj (v1, b2) _ _ (Sub.look (.cons rfl (.cons rfl (.cons rfl (.cons rfl (.cons rfl (.cons rfl (.cons rfl (.cons rfl .nil))))))))) (List.Sublist.refl _)
 ·
  refine W ?_
  exact At.final (N' := rowE chK 237 Vo (cs.map (·.1)) :: csg 239 cs) rfl (.t rfl) sl (⟨cs, by rw [hi2]; exact chunks_all (by rw [List.length_map]; omega) hi5, rfl, rfl⟩)
end Go.Proofs.YtbolanigdkgbdaaGreat
namespace Go.Proofs.YtbolanigdkgbdaaGreat
open Go Go.RowKit
set_option maxRecDepth 10000
set_option linter.unusedVariables false
theorem et_40 : elemTab Tryz.prog 40 = some (1, 24) := by kernel_rfl
def IsG (Eo E : TypeId) (G : List (List Itm)) : Value → Hp → Hp → Prop := fun v N H => ∃ gs : List (SV × List Itm), gs.map (·.2) = G ∧ N = rowE sK Eo v (gs.map (·.1)) :: seg iK E gs ∧ H = []
theorem c_rSplit {u : Value} {l : List Itm} {cells : Int} (hL : l.length ≤ 1000) : Fn Tryz.prog 181 [u, .int .i64 cells] [rdE iK u l] [] (IsG 40 43 (splitR (max 2 (min cells 16) / 2) [[]] l)) := by
 refine Fn.enter Tryz.func181 (by kernel_rfl) rfl (n := 81) rfl rfl (fun w => ?_)
 refine At.len (v := u) (rS M0) (fun hl1 => ?_)
 refine Z ?_
 refine eA rfl (R.quoI (.t rfl) .c gO) ?_
 refine W ?_
 refine At.lit (k := sK) rfl rfl rfl Tryz.underlying202 et_40 (.kc .nil) (.cons (y := ⟨.slice none 0 0, rfl⟩) rfl .nil) rfl rfl rfl (fun v1 => ⟨.all, ?_⟩)
 refine W ?_
 refine At.nilRow iK 43 ?_
 refine At.perm (List.Perm.swap _ _ _) ?_
 refine At.loop3 (fun (i : Nat) (gs : List (SV × List Itm)) (V : Value) => i ≤ l.length ∧ splitR (max 2 (min cells 16) / 2) (gs.map (·.2)) (l.drop i) = splitR (max 2 (min cells 16) / 2) [[]] l ∧ 0 < gs.length ∧ gs.length ≤ i + 1 ∧ (∀ x ∈ gs, x.2.length ≤ i)) (fun (i : Nat) (gs : List (SV × List Itm)) (V : Value) => l.length - i) (fun (i : Nat) (gs : List (SV × List Itm)) (V : Value) => [(0, true, u), (5, true, .int .i64 (max 2 (min cells 16) / 2)), (6, true, V), (7, true, .int .i64 i)]) (fun (i : Nat) (gs : List (SV × List Itm)) (V : Value) => rowE sK 40 V (gs.map (·.1)) :: seg iK 43 gs) (fun (i : Nat) (gs : List (SV × List Itm)) (V : Value) => []) (0) ([((⟨.slice none 0 0, rfl⟩ : SV), ([] : List Itm))]) (v1) ⟨Nat.zero_le _, rfl, by simp, by simp, by simp⟩ (.cons rfl (.cons rfl (.cons rfl (.cons rfl .nil)))) (List.Sublist.refl _) rfl (fun i gs V hi => ?_)
 obtain ⟨hi1, hi2, hi3, hi4, hi5⟩ := hi; have hml : (gs.map (·.1)).length = gs.length := List.length_map _
 refine Z ?_
 refine At.condD (.t rfl) (fun c1 => ?_) (fun c1 => ?_)
 ·
  refine W ?_
  refine At.loop1 (fun (k : Nat) => i ≤ k ∧ k ≤ l.length ∧ ∀ j : Nat, i ≤ j → j < k → (gE l (j : Int)).key = (gE l (i : Int)).key) (fun (k : Nat) => l.length - k) (fun (k : Nat) => [(0, true, u), (5, true, .int .i64 (max 2 (min cells 16) / 2)), (6, true, V), (7, true, .int .i64 i), (8, true, .int .i64 k)]) (fun (k : Nat) => rowE sK 40 V (gs.map (·.1)) :: seg iK 43 gs) (fun (k : Nat) => []) (i) ⟨Nat.le_refl _, by omega, fun j h h2 => by omega⟩ (.cons rfl (.cons rfl (.cons rfl (.cons rfl (.cons rfl .nil))))) (List.Sublist.refl _) rfl (fun k hi => ?_)
  obtain ⟨hk0, hk1, hk2⟩ := hi
  refine W ?_
  refine At.drawK [tt 0, tt 1, tt 2, tt 3, tt 4, tt 5, tt 6, tt 7, tt 8, tt 9, tt 10, tt 11, tt 12, tt 13, tt 14, tt 15, tt 16] (by kernel_rfl) (by kernel_rfl) ?_
  refine U ?_
  refine sJ rfl (R.lenRd Tryz.underlying40 (.t rfl) (rK M0)) ?_
  refine sJ rfl (R.lss (.t rfl) (.t rfl)) ?_
  refine U ?_
  refine sJ rfl (R.indexRd Tryz.underlying40 sz_43 (.s rfl) (rK M0) (.s rfl) (fun hg => (by ((simp [-List.length_eq_zero_iff] at hg; omega))))) ?_
  refine sJ rfl (R.fieldRd fo_43_0 (.s rfl) (rK M0) gO) ?_
  refine sJ rfl (R.loadRd Tryz.underlying3 rfl (.s rfl) (rK M0) (fun hg => by exact Ek.getN rfl (by ((simp [-List.length_eq_zero_iff] at hg; omega))))) ?_
  refine U ?_
  refine sJ rfl (R.indexRd Tryz.underlying40 sz_43 (.s rfl) (rK M0) (.s rfl) gO) ?_
  refine sJ rfl (R.fieldRd fo_43_0 (.s rfl) (rK M0) gO) ?_
  refine sJ rfl (R.loadRd Tryz.underlying3 rfl (.s rfl) (rK M0) (fun hg => by exact Ek.getN rfl (by omega))) ?_
  refine sJ rfl (R.eql (.s rfl) (.s rfl)) ?_
  refine sJ rfl (R.pickAnd (.t rfl) rfl (by (intro hg h; rw [h]; rfl))) ?_
  refine U ?_
  refine At.cond (.t rfl) (fun c2 => ?_) (fun c2 => ?_)
  ·
   simp only [Bool.and_eq_true, decide_eq_true_eq] at c2
   refine W ?_
   exact At.again1 (k + 1) ⟨by omega, by have := c2.1; omega, fun j h1 h2 => by rcases Nat.lt_or_ge j k with h | h; exact hk2 j h1 h; have : j = k := (by omega); subst this; exact c2.2⟩ (by have := c2.1; omega) (.cons rfl (.cons rfl (.cons rfl (.cons rfl (.cons rfl .nil))))) (List.Sublist.refl _) rfl
  ·
   have hc2 : ¬ (k < l.length ∧ (gE l (k : Int)).key = (gE l (i : Int)).key) := (fun h => by simp [h.1, h.2] at c2); have hik : i < k := (by rcases Nat.lt_or_ge i k with h | h; exact h; have : k = i := (by omega); subst this; exact absurd ⟨by omega, rfl⟩ hc2); have hkk : k < l.length → (gE l (k : Int)).key ≠ (gE l (i : Int)).key := (fun h e => hc2 ⟨h, e⟩); have hsz := hi5 (gE gs ((gs.length - 1 : Nat) : Int)) (gE_mem' (by omega))
   refine U ?_
   refine eA rfl (R.lenRd Tryz.underlying202 (.t rfl) (wS M1)) ?_
   refine eA rfl (R.as (R.subI (.t rfl) .c gO) (fun _ => congrArg (Value.int .i64) (by omega : ((gs.map (·.1)).length : Int) - 1 = ((gs.length - 1 : Nat) : Int)))) ?_
   refine U ?_
   refine eA rfl (R.indexRd Tryz.underlying202 sz_40 (.t rfl) (wS M1) (.t rfl) gO) ?_
   refine eA rfl (R.loadRd Tryz.underlying40 rfl (.t rfl) (wS M1) (fun hg => by exact segGet (by omega))) ?_
   refine eA rfl (R.lenRd Tryz.underlying40 (.t rfl) (by exact segS (gs := gs) sl (by omega))) ?_
   refine eA rfl (R.gtr (.t rfl) .c) ?_
   refine U ?_
   refine eA rfl (R.indexRd Tryz.underlying202 sz_40 (.s rfl) (wS M1) (.s rfl) gO) ?_
   refine eA rfl (R.loadRd Tryz.underlying40 rfl (.s rfl) (wS M1) (fun hg => by exact segGet (by omega))) ?_
   refine eA rfl (R.lenRd Tryz.underlying40 (.s rfl) (by exact segS (gs := gs) sl (by omega))) ?_
   refine U ?_
   refine eA rfl (R.addI (.s rfl) (.s rfl) gO) ?_
   refine U ?_
   refine eA rfl (R.subI (.s rfl) (.s rfl) gO) ?_
   refine U ?_
   refine eA rfl (R.gtr (.s rfl) (.s rfl)) ?_
   refine eA rfl (R.pickAnd (.t rfl) rfl (by (intro hg h; rw [h]; rfl))) ?_
   refine U ?_
   refine At.cut3 (fun (gs2 : List (SV × List Itm)) (V2 : Value) (m : Nat) => gs2.map (·.2) = openG (max 2 (min cells 16) / 2) (gs.map (·.2)) (k - i) ∧ gs2.length = m + 1 ∧ gs2.length ≤ gs.length + 1 ∧ (∀ x ∈ gs2, x.2.length ≤ i)) (fun (gs2 : List (SV × List Itm)) (V2 : Value) (m : Nat) => [(0, true, u), (5, true, .int .i64 (max 2 (min cells 16) / 2)), (6, true, V2), (7, true, .int .i64 i), (8, true, .int .i64 k), (9, true, .int .i64 m)]) (fun (gs2 : List (SV × List Itm)) (V2 : Value) (m : Nat) => rowE sK 40 V2 (gs2.map (·.1)) :: seg iK 43 gs2) (fun (gs2 : List (SV × List Itm)) (V2 : Value) (m : Nat) => []) ?_ (fun gs2 V2 m hi => ?_)
   ·
    refine At.cond (.t rfl) (fun c3 => ?_) (fun c3 => ?_)
    ·
     refine W ?_
     refine At.lit (k := sK) rfl rfl rfl Tryz.underlying202 et_40 (.kc .nil) (.cons (y := ⟨.slice none 0 0, rfl⟩) rfl .nil) rfl rfl rfl (fun v2 => ⟨.all, ?_⟩)
     refine At.app (k := sK) rfl rfl rfl Tryz.underlying202 et_40 (.t rfl) (.t rfl) (fun _ => by (exact U1)) (wS M1) (by (simp <;> omega)) (fun v3 => ⟨.all, ?_⟩)
     refine W ?_
     refine At.nilRow iK 43 ?_
     refine At.weak (fun _ _ h => h) (N' := rowE iK 43 (.slice none 0 0) [] :: ([rowE sK 40 v3 (gs.map (·.1) ++ [⟨.slice none 0 0, rfl⟩])] ++ seg iK 43 gs)) sl ?_
     refine At.segNew (A := [rowE sK 40 v3 (gs.map (·.1) ++ [⟨.slice none 0 0, rfl⟩])]) (α := Itm) (v := ⟨.slice none 0 0, rfl⟩) (xs := []) ?_
     refine At.re (N' := rowE sK 40 v3 ((gs ++ [((⟨.slice none 0 0, rfl⟩ : SV), ([] : List Itm))]).map (·.1)) :: seg iK 43 (gs ++ [((⟨.slice none 0 0, rfl⟩ : SV), ([] : List Itm))])) (by simp [List.map_append]) ?_
     refine W ?_
     exact At.mid3 (gs ++ [((⟨.slice none 0 0, rfl⟩ : SV), ([] : List Itm))]) (v3) (gs.length) ⟨openG_yes (m := gs.length - 1) (by omega) (by simp only [Bool.and_eq_true, decide_eq_true_eq] at c3; omega), by simp, by simp, fun x hx => by rcases List.mem_append.1 hx with h | h; exact hi5 x h; simp at h; subst h; exact Nat.zero_le _⟩ (.cons rfl (.cons rfl (.cons rfl (.cons rfl (.cons rfl (.cons (congrArg (fun z => some (true, Value.int .i64 z)) (by omega)) .nil)))))) (List.Sublist.refl _) rfl
    ·
     refine W ?_
     exact At.mid3 (gs) (V) (gs.length - 1) ⟨openG_no (m := gs.length - 1) (by omega) (fun h => by simp at c3; omega), by omega, by omega, hi5⟩ (.cons rfl (.cons rfl (.cons rfl (.cons rfl (.cons rfl (.cons rfl .nil)))))) (List.Sublist.refl _) rfl
   ·
    obtain ⟨hm1, hm2, hm3, hm4⟩ := hi; have hml2 : (gs2.map (·.1)).length = gs2.length := List.length_map _; have hsz2 := hm4 (gE gs2 (m : Int)) (gE_mem' (by omega))
    refine W ?_
    refine At.rowForm (v := V2) (M1) (by omega) (fun g cap hv => ?_)
    subst hv
    refine At.drawL ([rdE iK u l]) [tt 0, tt 1, tt 2, tt 3, tt 4, tt 7, tt 8, tt 9, tt 10] [tt 5, ff 6, ff 11, tt 12] [ff 13] (keepOf sl) (by kernel_rfl) (by kernel_rfl) ?_
    refine W ?_
    refine sC rfl kz (R.indexSlE Tryz.underlying202 sz_40 (.t rfl) (.t rfl) gO) ?_
    refine W ?_
    refine sC rfl kz (R.sliceRd Tryz.underlying40 sz_43 (.t rfl) (rK M0) (.t rfl) (.t rfl) gO) ?_
    refine At.stage kI ?_
    refine sJ rfl (R.loadRd Tryz.underlying40 rfl (.t rfl) (wK M1) (fun hg => by exact segGet (by omega))) ?_
    (refine At.nilRow iK 43 ?_; refine At.app (k := iK) rfl rfl rfl Tryz.underlying40 et_43 .c (.t rfl) (fun _ => by (exact U0)) (by exact segS (gs := gs2) sl (by omega)) (by (simp <;> omega)) (fun v4 => ⟨kz, ?_⟩))
    refine At.app (k := iK) rfl rfl rfl Tryz.underlying40 et_43 (.t rfl) (.t rfl) (fun _ => by (exact U0)) (RdIn.cutE (k := iK) (rS M0) _ _ (by omega) (by omega)) (by (simp <;> omega)) (fun v5 => ⟨kz, ?_⟩)
    refine sC rfl kz (R.indexRd Tryz.underlying202 sz_40 (.t rfl) (wK M1) (.t rfl) gO) ?_
    refine At.stage kz ?_
    refine At.rowOne (v := v5) (M1) (fun h1v => ?_)
    refine At.stSeg (gs := gs2) (xs := (gE gs2 (m : Int)).2 ++ (l.drop i).take (k - i)) rfl rfl sz_40 (.t rfl) (.t rfl) h1v (by omega) U1 ⟨kz, ?_⟩
    refine W ?_
    refine At.segIn (A := [rowE sK 40 (.slice (some ⟨g, 0, none⟩) (gs2.map (·.1)).length cap) ((gs2.set ((m : Int)).toNat (⟨v5, h1v⟩, (gE gs2 (m : Int)).2 ++ (l.drop i).take (k - i))).map (·.1))]) (i := ((m : Int)).toNat) (v := ⟨v5, h1v⟩) (xs := (gE gs2 (m : Int)).2 ++ (l.drop i).take (k - i)) (by omega) ?_
    refine W ?_
    exact At.again3 (k) (gs2.set ((m : Int)).toNat (⟨v5, h1v⟩, (gE gs2 (m : Int)).2 ++ (l.drop i).take (k - i))) (.slice (some ⟨g, 0, none⟩) (gs2.map (·.1)).length cap) ⟨by omega, by rw [putG_eq hm2 (by rw [hm1, List.length_take, List.length_drop, Nat.min_eq_left (by omega)]), ← splitR_step hik (by omega) hk2 hkk]; exact hi2, by simp; omega, by simp; omega, sizes_put hm4 (by omega) (by have := hm4 (gE gs2 (m : Int)) (gE_mem' (by omega)); simp; omega)⟩ (by omega) (.cons rfl (.cons rfl (.cons rfl (.cons rfl .nil)))) (List.Sublist.refl _) rfl
 ·
  refine W ?_
  exact At.final (N' := rowE sK 40 V (gs.map (·.1)) :: seg iK 43 gs) rfl (.t rfl) (List.Sublist.refl _) (⟨gs, by rw [List.drop_eq_nil_of_le (by omega), splitR_nil] at hi2; exact hi2, rfl, rfl⟩)
end Go.Proofs.YtbolanigdkgbdaaGreat
