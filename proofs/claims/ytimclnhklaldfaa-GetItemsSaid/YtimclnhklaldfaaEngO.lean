/- The verifier's own engine, fifteenth part: functions that hold a range over a function. -/
import Derived.Test.YtimclnhklaldfaaEngN
import Derived.RangeFuncNested
import Derived.RangeFuncBox
import Derived.RangeFuncLeaves
namespace Go.Proofs.Ytimclnhklaldfaa
open Go Go.RowKit
set_option linter.unusedVariables false
theorem Fn.enterM {P : Program} {f : FuncId} {fn : Func} {c : Code} {args : List Value} {S H : Hp} {R : Value → Hp → Hp → Prop} {n : Nat} {l0 : Fr} (hf : P.funcs[f]? = some fn) (hname : (fn.name == "runtime.NumGoroutine") = false)
    (hb : fn.body = some c) (hn : max fn.ntmps args.length = n) (hl : numbered 0 args = l0) (h : ∀ w, At w n S l0 [] H (c.wp P (bodyPostM Fence.wide 3 P fn (PostOf w S R)))) : Fn P f args S H R := by
  refine ⟨⟨fn, hf, hname, by simp [hb]⟩, fun w hw => (callsIn_wide (n := 3)).1 (callsIn_of_wp_marks hf hb trivial (wpIn_wide.2 (h w _ w ?_ hw)))⟩
  subst hl hn
  refine ⟨by simp; omega, rfl, fun t g v ht => ?_⟩
  rw [look_numbered] at ht
  simp only [Nat.zero_le, if_true, Nat.sub_zero, Option.map_eq_some_iff, Prod.mk.injEq] at ht
  obtain ⟨u, ht, rfl, rfl⟩ := ht
  have hlt : t < args.length := (List.getElem?_eq_some_iff.1 ht).1
  have hv : args[t] = u := by rw [List.getElem?_eq_getElem hlt] at ht; injection ht
  simp [Array.getElem?_append, hlt, hv]
section
variable [Df]
theorem R.neqNilP {P : Program} {n : Nat} {l : Fr} {C : World → Prop} {g : Bool} {d : Option Tmp} {x : Operand} {T U ty : TypeId} {pos : String} {af : Array Edge} {gd : Option (Nat × Bool)} {p : Option Addr} (hT : P.underlying T = some (.pointer (P.pointee T))) (hx : Ev n l g x (.pointer p)) :
    RunsC P n l C g ⟨d, .binOp .neq T x (.const (.pointer none)) U, ty, pos, af, gd⟩ (.bool p.isSome) := fun hg a w ha _ => by
  have e : a.eval (.const (.pointer none)) = .pointer none := rfl
  have h1 : (eqGuard .neq T x (.const (.pointer none)) (.pointer p) (.pointer none)) = pure () := rfl
  have h2 := run_neq_pointer_nil (P := P) w T p hT
  simp [execOp, hx.eq hg ha, e, h1, h2]
section
variable {P : Program} {w0 : World} {n : Nat} {S N H : Hp} {l : Fr} {ops : Array Oper} {C : World → Prop} {K : Act → World → Prop} {r : List (Bool × Nat)} {i : Nat}
/-- An operation that is passed over, and upon whose answer others wait. -/
theorem At.eFb {d : Nat} {o : Oper} (ho : ops[i]? = some o) (hd : o.dst = some d) (hdn : Nat.blt d n = true) (hg : wantG ops l o = some false) (hC : Cl w0 S N H C)
    (h : At w0 n S ((d, false, .bool true) :: l) N H (wpSch P ops C K r)) : At w0 n S l N H (wpSch P ops C K ((false, i) :: r)) := At.e ho hd hdn hg hC (fun h => nomatch h) h
end
theorem At.finalM {P : Program} {w0 : World} {n : Nat} {S N H : Hp} {l : Fr} {fn : Func} {R : Value → Hp → Hp → Prop} {t : ResultVar} {v : Value} {N1 N' : Hp} {D : Nat} (hd : (Df.ds : List Deferred) = [{ target := .collected D, args := #[] }]) (hr : fn.results = #[t])
    (hu : UpL N (.blk D (.deferred (some []))) (.blk D (.deferred none)) N1) (hv : ResV P w0 n S N1 H l t v) (hN : N'.Sublist N1) (hR : R v N' H) :
    At w0 n S l N H (bodyPostM Fence.wide 3 P fn (PostOf w0 S R) .ret) := fun a w ha hw => by
  have hD : w.heap[D]? = some (.deferred (some [])) := hw.has _ (List.mem_append_left _ hu.mem)
  have hlt : D < w.heap.size := (Array.getElem?_eq_some_iff.1 hD).1
  have hw1 : St w0 (w.putObj D (.deferred none)) S N1 H := hw.upd (Up.n hu) rfl (World.putObj_heap_same hlt) rfl rfl rfl (by simp [World.putObj]) (fun k hk hne => World.putObj_heap_other (fun e => hne (by rw [e]; rfl)))
  show LeavesInM Fence.wide 3 P fn a.tmps (PostOf w0 S R) a.defers .returning w
  rw [ha.defers, hd]
  refine ⟨by simp, .inl ⟨_, _, rfl, run_takeDeferred hD, ?_⟩⟩
  have := hv a _ ha hw1
  refine ⟨v, ?_, v, N', H, hR, rfl, hw1.forget hN⟩
  rw [results_eq, hr]
  simp [this]
end
end Go.Proofs.Ytimclnhklaldfaa
