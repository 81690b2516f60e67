/- A2 -/
import Derived.Test.YtimclnhklaldfaaA1
namespace Go.Proofs.Ytimclnhklaldfaa
open Go Go.RowKit
set_option maxRecDepth 10000
set_option linter.unusedVariables false



def Ar.load (a : Ar) (i : Int) : Ar := a.note 1 i (a.peek i) (a.peek i) false
def Ar.swap (a : Ar) (i old nw : Int) : Ar := a.acc 3 i (fun x => if x = old then nw else x) (fun x => decide (x = old))
theorem acc_load (a : Ar) (i : Int) : a.acc 1 i (fun x => x) (fun _ => false) = a.load i := by
  unfold Ar.acc Ar.load Ar.peek
  split
  · rename_i h
    obtain ⟨h1, h2⟩ := Ar.hit_yes h
    have : a.w.set i.toNat (gE a.w i) = a.w := by
      apply List.ext_getElem?
      intro j
      rw [List.getElem?_set]
      split
      · rename_i e; subst e
        have : i.toNat < a.w.length := by omega
        rw [if_pos this]
        unfold gE
        rw [List.getD_eq_getElem?_getD, List.getElem?_eq_getElem this]; rfl
      · rfl
    unfold Ar.poke
    rw [if_pos h, this]; rfl
  · rfl
theorem a_Load1 {x : Int} : Fn Try.prog 47 [.int .i64 x] ([]) ([]) (IsV (.tuple #[.int .i64 x, .bool false])) := by
  refine Fn.enter Try.func47 (by kernel_rfl) rfl (n := 5) rfl rfl (fun w => ?_)
  refine At.seq ?_
  refine At.plain [(false, 0), (false, 1)] rfl ?_
  refine At.e rfl rfl rfl rfl .all (R.assign .c) ?_
  refine At.e rfl rfl rfl rfl .all (R.assign .c) ?_
  refine At.nil ?_
  refine At.tN ?_
  refine At.seq ?_
  refine At.plain [(false, 0), (false, 1), (false, 2)] rfl ?_
  refine At.e rfl rfl rfl rfl .all (R.move (.t rfl)) ?_
  refine At.e rfl rfl rfl rfl .all (R.assign (.t rfl)) ?_
  refine At.e rfl rfl rfl rfl .all (R.assign .c) ?_
  refine At.nil ?_
  refine At.tN ?_
  refine At.ret ?_
  exact At.final2 rfl (.t rfl) (.t rfl) (List.nil_sublist _) (⟨rfl, rfl, rfl⟩)

theorem a_Swap1 {x old nw : Int} {b1 b2 : Nat} : Fn Try.prog 48 [.int .i64 x, .pointer (some ⟨b1, 0, none⟩), .pointer (some ⟨b2, 0, none⟩)] ([.blk b1 (.cells #[.int .i64 old] 3), .blk b2 (.cells #[.int .i64 nw] 3)]) ([]) (IsV (.tuple #[.int .i64 (if x = old then nw else x), .bool (decide (x = old))])) := by
  refine Fn.enter Try.func48 (by kernel_rfl) rfl (n := 11) rfl rfl (fun w => ?_)
  refine At.seq ?_
  refine At.plain [(false, 0), (false, 1)] rfl ?_
  refine At.e rfl rfl rfl rfl .all (R.assign .c) ?_
  refine At.e rfl rfl rfl rfl .all (R.assign .c) ?_
  refine At.nil ?_
  refine At.tN ?_
  refine At.seq ?_
  refine At.seq ?_
  refine At.plain [(false, 0), (false, 1), (false, 2)] rfl ?_
  refine At.e rfl rfl rfl rfl .all (R.move (.t rfl)) ?_
  refine At.e rfl rfl rfl rfl .all (R.load Try.underlying3 rfl (.t rfl) (by first | exact cS M0 rfl | exact cS M1 rfl | exact cS M2 rfl | exact cS M3 rfl | exact cS M4 rfl | exact cS M5 rfl | exact cS M6 rfl | exact cS M7 rfl)) ?_
  first | refine At.e rfl rfl rfl rfl .all (R.as (R.eql (.t rfl) (.t rfl)) (fun _ => congrArg Value.bool (decide_eq_true (by first | rfl | omega)))) ?_ | refine At.e rfl rfl rfl rfl .all (R.as (R.eql (.t rfl) (.t rfl)) (fun _ => congrArg Value.bool (decide_eq_false (by omega)))) ?_ | refine At.e rfl rfl rfl rfl .all (R.eql (.t rfl) (.t rfl)) ?_
  refine At.nil ?_
  refine At.tN ?_
  first | refine At.condD (.t rfl) (fun c1 => ?_) (fun c1 => ?_) | refine At.condN (.t rfl) (fun c1 => ?_) (fun c1 => ?_) | refine At.cond (.t rfl) (fun c1 => ?_) (fun c1 => ?_)
  · skip
    refine At.seq ?_
    refine At.plain [(false, 0), (false, 1), (false, 2)] rfl ?_
    refine At.e rfl rfl rfl rfl .all (R.load Try.underlying3 rfl (.t rfl) (by first | exact cS M0 rfl | exact cS M1 rfl | exact cS M2 rfl | exact cS M3 rfl | exact cS M4 rfl | exact cS M5 rfl | exact cS M6 rfl | exact cS M7 rfl)) ?_
    refine At.e rfl rfl rfl rfl .all (R.assign (.t rfl)) ?_
    refine At.e rfl rfl rfl rfl .all (R.assign .c) ?_
    refine At.nil ?_
    refine At.tN ?_
    refine At.ret ?_
    refine At.tR ?_
    exact At.final2 rfl (.t rfl) (.t rfl) (List.nil_sublist _) (⟨by first | (rw [if_pos c1, decide_eq_true c1]; rfl) | (rw [if_neg c1, decide_eq_false c1]; rfl) | (rw [if_neg c1, decide_eq_false c1]), rfl, rfl⟩)
  · skip
    refine At.skip ?_
    refine At.tN ?_
    refine At.seq ?_
    refine At.plain [(false, 0), (false, 1), (false, 2)] rfl ?_
    refine At.e rfl rfl rfl rfl .all (R.move (.t rfl)) ?_
    refine At.e rfl rfl rfl rfl .all (R.assign (.t rfl)) ?_
    refine At.e rfl rfl rfl rfl .all (R.assign .c) ?_
    refine At.nil ?_
    refine At.tN ?_
    refine At.ret ?_
    exact At.final2 rfl (.t rfl) (.t rfl) (List.nil_sublist _) (⟨by first | (rw [if_pos c1, decide_eq_true c1]; rfl) | (rw [if_neg c1, decide_eq_false c1]; rfl) | (rw [if_neg c1, decide_eq_false c1]), rfl, rfl⟩)

theorem a_Load {b n : Nat} {wv : Value} {a : Ar} (hn : a.w.length = n) (hN : n ≤ 1000000) (hf : a.few) {i : Int} : Fn Try.prog 26 [.pointer (some ⟨b, 0, none⟩), .int .i64 i] ([]) ([arB b wv a, arW wv n a]) (IsM (.int .i64 (a.peek i)) [arB b wv (a.load i), arW wv n (a.load i)]) := by
  refine Fn.enter Try.func26 (by kernel_rfl) rfl (n := 14) rfl rfl (fun w => ?_)
  refine At.seq ?_
  refine At.plain [(false, 0)] rfl ?_
  refine At.e rfl rfl rfl rfl .all (R.assign .c) ?_
  refine At.nil ?_
  refine At.tN ?_
  refine At.seq ?_
  refine At.plain [(false, 0), (false, 1), (false, 2), (false, 3), (false, 4), (false, 5), (false, 6), (false, 7)] rfl ?_
  refine At.e rfl rfl rfl rfl .all (R.move (.t rfl)) ?_
  refine At.e rfl rfl rfl rfl .all (R.move (.t rfl)) ?_
  refine At.callM (fst := []) (cap := []) rfl rfl rfl Ev.f (.cons (.t rfl) (.cons .c (.cons (.t rfl) (.cons .f .nil)))) rfl (.h (.take (.take .nil))) .nil (a_changes1 hn hN hf (a := a) (bks := []) (g := (fun x => x)) (okf := (fun _ => false)) (fst := []) (cap := []) (fun x => a_Load1)) rfl .nil ⟨.all, ?_⟩
  refine At.e rfl rfl rfl rfl .all (R.move (.t rfl)) ?_
  refine At.e rfl rfl rfl rfl .all (R.extract (.t rfl) rfl) ?_
  refine At.e rfl rfl rfl rfl .all (R.extract (.t rfl) rfl) ?_
  refine At.e rfl rfl rfl rfl .all (R.assign (.t rfl)) ?_
  refine At.e rfl rfl rfl rfl .all (R.assign (.t rfl)) ?_
  refine At.nil ?_
  refine At.tN ?_
  refine At.seq ?_
  refine At.plain [(false, 0), (false, 1)] rfl ?_
  refine At.e rfl rfl rfl rfl .all (R.move (.t rfl)) ?_
  refine At.e rfl rfl rfl rfl .all (R.assign (.t rfl)) ?_
  refine At.nil ?_
  refine At.tN ?_
  refine At.ret ?_
  exact At.final rfl (.t rfl) (List.nil_sublist _) (⟨rfl, rfl, by rw [acc_load]⟩)

theorem a_Swap {b n : Nat} {wv : Value} {a : Ar} (hn : a.w.length = n) (hN : n ≤ 1000000) (hf : a.few) {i old nw : Int} : Fn Try.prog 30 [.pointer (some ⟨b, 0, none⟩), .int .i64 i, .int .i64 old, .int .i64 nw] ([]) ([arB b wv a, arW wv n a]) (IsM (.bool (a.ran i fun x => decide (x = old))) [arB b wv (a.swap i old nw), arW wv n (a.swap i old nw)]) := by
  refine Fn.enter Try.func30 (by kernel_rfl) rfl (n := 19) rfl rfl (fun w => ?_)
  refine At.seq ?_
  refine At.plain [(false, 0), (false, 1), (false, 2)] rfl ?_
  refine At.box rfl rfl rfl (.t rfl) (fun b1 hb1 => ⟨.all, ?_⟩)
  refine At.box rfl rfl rfl (.t rfl) (fun b2 hb2 => ⟨.all, ?_⟩)
  refine At.e rfl rfl rfl rfl .all (R.assign .c) ?_
  refine At.nil ?_
  refine At.tN ?_
  refine At.seq ?_
  refine At.plain [(false, 0), (false, 1), (false, 2), (false, 3), (false, 4), (false, 5), (false, 6), (false, 7), (false, 8)] rfl ?_
  refine At.e rfl rfl rfl rfl .all (R.move (.t rfl)) ?_
  refine At.e rfl rfl rfl rfl .all (R.move (.t rfl)) ?_
  refine At.e rfl rfl rfl rfl .all (R.makeFunc .nil (.cons (.t rfl) (.cons (.t rfl) .nil))) ?_
  refine At.callM (fst := []) (cap := []) rfl rfl rfl Ev.f (.cons (.t rfl) (.cons .c (.cons (.t rfl) (.cons (.t rfl) .nil)))) rfl (.h (.take (.take .nil))) (.blk (.st M1) (.blk (.st M0) .nil)) (a_changes3 hn hN hf (a := a) (bks := [(b1, .cells #[.int .i64 old] 3), (b2, .cells #[.int .i64 nw] 3)]) (g := (fun x => if x = old then nw else x)) (okf := (fun x => decide (x = old))) (fst := []) (cap := [.pointer (some ⟨b1, 0, none⟩), .pointer (some ⟨b2, 0, none⟩)]) (fun x => a_Swap1)) rfl (Aprt.nh (by simp) (by simp)) ⟨.all, ?_⟩
  refine At.e rfl rfl rfl rfl .all (R.move (.t rfl)) ?_
  refine At.e rfl rfl rfl rfl .all (R.extract (.t rfl) rfl) ?_
  refine At.e rfl rfl rfl rfl .all (R.extract (.t rfl) rfl) ?_
  refine At.e rfl rfl rfl rfl .all (R.assign (.t rfl)) ?_
  refine At.e rfl rfl rfl rfl .all (R.assign (.t rfl)) ?_
  refine At.nil ?_
  refine At.tN ?_
  refine At.seq ?_
  refine At.plain [(false, 0), (false, 1)] rfl ?_
  refine At.e rfl rfl rfl rfl .all (R.move (.t rfl)) ?_
  refine At.e rfl rfl rfl rfl .all (R.assign (.t rfl)) ?_
  refine At.nil ?_
  refine At.tN ?_
  refine At.ret ?_
  exact At.final rfl (.t rfl) (List.nil_sublist _) (⟨rfl, rfl, rfl⟩)

end Go.Proofs.Ytimclnhklaldfaa
