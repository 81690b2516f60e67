/- W1 -/
import Derived.Test.YtcgelaegceefeaaRows
import Derived.Test.YtcgelaegceefeaaEngC
namespace Go.Proofs.Ytcgelaegceefeaa
open Go Go.RowKit

theorem bt_23 : buildTab Try.prog 23 = some (#[.int .i64 0, .int .i64 0, .int .i64 0, .int .i64 0], [(0, 1), (1, 1), (2, 1), (3, 1)]) := by kernel_rfl
theorem bt_63 : buildTab Try.prog 63 = some (#[.int .i64 0, .int .i64 0, .int .i64 0], [(0, 1), (1, 1), (2, 1)]) := by kernel_rfl
theorem fo_23_0 : fieldOff? Try.prog 23 0 = some 0 := by kernel_rfl
theorem fo_23_1 : fieldOff? Try.prog 23 1 = some 1 := by kernel_rfl
theorem fo_23_2 : fieldOff? Try.prog 23 2 = some 2 := by kernel_rfl
theorem fo_23_3 : fieldOff? Try.prog 23 3 = some 3 := by kernel_rfl
theorem sz_23 : (Try.prog.info? 23).map (·.size) = some 4 := by kernel_rfl
theorem sz_3 : (Try.prog.info? 3).map (·.size) = some 1 := by kernel_rfl
theorem ze_23 : (Try.prog.info? 23).bind (·.zero) = some (.agg #[.int .i64 0, .int .i64 0, .int .i64 0, .int .i64 0]) := by kernel_rfl

def isConfF (a b c d : Int) : Int :=
  if (a < 1 ∨ 8 < a ∨ b < a + 2 ∨ 16 < b ∨ d < 1 ∨ 1048576 < d ∨ c < 1 ∨ 20000 < c) then 10 else if c < 21 + a + 3 * b then 14 else 0
theorem isConf_zero {a b c d : Int} (h : isConfF a b c d = 0) : 1 ≤ a ∧ a ≤ 8 ∧ a + 2 ≤ b ∧ b ≤ 16 ∧ 1 ≤ d ∧ d ≤ 1048576 ∧ 1 ≤ c ∧ c ≤ 20000 ∧ 21 + a + 3 * b ≤ c := by
  unfold isConfF at h
  split at h
  · cases h
  · split at h
    · cases h
    · omega
theorem prod_bd (x y : Int) (h0 : 0 ≤ x) (h1 : x ≤ 1000000) (h2 : 0 ≤ y) (h3 : y ≤ 10000000) : 0 ≤ x * y ∧ x * y ≤ 10000000000000 := by
  refine ⟨Int.mul_nonneg h0 h2, ?_⟩
  calc x * y ≤ 1000000 * 10000000 := Int.mul_le_mul h1 h3 h2 (by omega)
    _ ≤ 10000000000000 := by omega
theorem prod_bd2 (x y : Int) (h0 : 0 ≤ x) (h1 : x ≤ 128001000) (h2 : 0 ≤ y) (h3 : y ≤ 10000000) : 0 ≤ x * y ∧ x * y ≤ 10000000000000000 := by
  refine ⟨Int.mul_nonneg h0 h2, ?_⟩
  calc x * y ≤ 128001000 * 10000000 := Int.mul_le_mul h1 h3 h2 (by omega)
    _ ≤ 10000000000000000 := by omega
theorem div_step (x s : Int) (hs : 0 < s) : (x + s) / s = x / s + 1 := by rw [Int.add_ediv_of_dvd_right ⟨1, by omega⟩, Int.ediv_self (by omega)]
def chunksF (a b m : Int) : Int := 1 + max (m - (21 + a + 3 * b)) 0 / (7 + 3 * b)
theorem chunks_quo (a b m : Int) (h0 : 0 ≤ a) (h1 : a ≤ 1000000) (h2 : 0 ≤ b) (h3 : b ≤ 1000000) (h4 : 0 ≤ m) (h5 : m ≤ 1000000) :
    0 ≤ max (m - (21 + a + 3 * b)) 0 / (7 + 3 * b) ∧ max (m - (21 + a + 3 * b)) 0 / (7 + 3 * b) ≤ 1000000 ∧ 0 ≤ max 0 (m - (21 + a + 3 * b)) / (7 + 3 * b) ∧ max 0 (m - (21 + a + 3 * b)) / (7 + 3 * b) ≤ 1000000 := by
  have h : 0 ≤ max (m - (21 + a + 3 * b)) 0 := by omega
  have h' : max (m - (21 + a + 3 * b)) 0 / (7 + 3 * b) ≤ max (m - (21 + a + 3 * b)) 0 := Int.ediv_le_self _ h
  have h'' := Int.ediv_nonneg h (show 0 ≤ 7 + 3 * b by omega)
  rw [Int.max_comm 0]
  omega
theorem grows_plain (a b m n : Int) (ha : 1 ≤ a) (ha' : a ≤ 8) (hb : 3 ≤ b ∧ b ≤ 16) (hm : 0 ≤ m) (hn : 0 ≤ n) (hn' : n < 300) :
    1 ≤ chunksF a b m ∧ (chunksF a b (m + (7 + 3 * b)) = chunksF a b m + 1 ∨ m < 21 + a + 3 * b ∧ (chunksF a b (m + (7 + 3 * b)) = chunksF a b m ∨ chunksF a b (m + (7 + 3 * b)) = chunksF a b m + 1)) ∧
    (n + 1) * (3 + 6 * b) = n * (3 + 6 * b) + (3 + 6 * b) ∧ 3 + 6 * b ≤ max 1 n * (3 + 6 * b) ∧
    128 * (n + 4) * (n + b + (a + 8)) < 128 * (n + 1 + 4) * (n + 1 + b + (a + 8)) ∧ 0 ≤ n * (3 + 6 * b) ∧ n * (3 + 6 * b) ≤ 300 * 99 ∧ chunksF a b m ≤ 1 + m := by
  have hd : ∀ x : Int, 0 ≤ x → 0 ≤ x / (7 + 3 * b) := fun x hx => Int.ediv_nonneg hx (by omega)
  refine ⟨?_, ?_, ?_, ?_, ?_, ?_, ?_, ?_⟩
  · unfold chunksF; have := hd (max (m - (21 + a + 3 * b)) 0) (by omega); omega
  · by_cases h : 21 + a + 3 * b ≤ m
    · left
      unfold chunksF
      have e1 : max (m - (21 + a + 3 * b)) 0 = m - (21 + a + 3 * b) := by omega
      have e2 : max (m + (7 + 3 * b) - (21 + a + 3 * b)) 0 = m - (21 + a + 3 * b) + (7 + 3 * b) := by omega
      rw [e1, e2, div_step _ _ (by omega)]
      omega
    · right
      refine ⟨by omega, ?_⟩
      unfold chunksF
      have e1 : max (m - (21 + a + 3 * b)) 0 = 0 := by omega
      rw [e1, Int.zero_ediv]
      have e2 : 0 ≤ max (m + (7 + 3 * b) - (21 + a + 3 * b)) 0 := by omega
      have e3 : max (m + (7 + 3 * b) - (21 + a + 3 * b)) 0 < 7 + 3 * b := by omega
      rw [Int.ediv_eq_zero_of_lt e2 e3]
      omega
  · rw [Int.add_mul, Int.one_mul]
  · have h1 : (1 : Int) ≤ max 1 n := by omega
    calc 3 + 6 * b = 1 * (3 + 6 * b) := by omega
      _ ≤ max 1 n * (3 + 6 * b) := Int.mul_le_mul_of_nonneg_right h1 (by omega)
  · have h1 : 128 * (n + 4) * (n + b + (a + 8)) ≤ 128 * (n + 1 + 4) * (n + b + (a + 8)) := Int.mul_le_mul_of_nonneg_right (by omega) (by omega)
    have h2 : 128 * (n + 1 + 4) * (n + b + (a + 8)) < 128 * (n + 1 + 4) * (n + 1 + b + (a + 8)) := Int.mul_lt_mul_of_pos_left (by omega) (by omega)
    omega
  · exact Int.mul_nonneg hn (by omega)
  · exact Int.mul_le_mul (by omega) (by omega) (by omega) (by omega)
  · unfold chunksF
    have := Int.ediv_le_self (7 + 3 * b) (show 0 ≤ max (m - (21 + a + 3 * b)) 0 by omega)
    omega
abbrev confV (a b c d : Int) : Value := .agg #[.int .i64 a, .int .i64 b, .int .i64 c, .int .i64 d]

theorem c_Psa {t : Int} (h0 : 0 ≤ t) (h1 : t ≤ 1000000) : Fn Try.prog 93 [.int .i64 t] [] [] (IsV (.int .i64 (3 + t))) := by
  refine Fn.enter Try.func93 (by kernel_rfl) rfl (n := 5) rfl rfl (fun w => ?_)
  refine At.seq ?_
  refine At.plain [(false, 0)] rfl ?_
  refine At.e rfl rfl rfl rfl .all (R.assign .c) ?_
  refine At.nil ?_
  refine At.tN ?_
  refine At.seq ?_
  refine At.plain [(false, 0), (false, 1), (false, 2)] rfl ?_
  refine At.e rfl rfl rfl rfl .all (R.move (.t rfl)) ?_
  first | refine At.e rfl rfl rfl rfl .all (R.addI .c (.t rfl) (fun hg => by first | omega | (simp at hg; omega))) ?_ | refine At.e rfl rfl rfl rfl .all (R.add .c (.t rfl)) ?_
  refine At.e rfl rfl rfl rfl .all (R.assign (.t rfl)) ?_
  refine At.nil ?_
  refine At.tN ?_
  refine At.ret ?_
  exact At.final rfl (.t rfl) (List.nil_sublist _) (⟨congrArg (Value.int .i64) (by omega), rfl, rfl⟩)

theorem c_Size {a b c d : Int} (h2 : 0 ≤ b) (h3 : b ≤ 1000000) : Fn Try.prog 52 [confV a b c d] [] [] (IsV (.int .i64 (7 + 3 * b))) := by
  refine Fn.enter Try.func52 (by kernel_rfl) rfl (n := 7) rfl rfl (fun w => ?_)
  refine At.seq ?_
  refine At.plain [(false, 0), (false, 1)] rfl ?_
  refine At.box rfl rfl rfl (.t rfl) (fun b1 hb1 => ⟨.all, ?_⟩)
  refine At.e rfl rfl rfl rfl .all (R.assign .c) ?_
  refine At.nil ?_
  refine At.tN ?_
  refine At.seq ?_
  refine At.plain [(false, 0), (false, 1), (false, 2), (false, 3), (false, 4)] rfl ?_
  refine At.e rfl rfl rfl rfl .all (R.fieldAddr fo_23_1 (.t rfl)) ?_
  refine At.e rfl rfl rfl rfl .all (R.load Try.underlying3 rfl (.t rfl) (by first | exact cin_new (.head _) rfl | exact cin_new (.tail _ (.head _)) rfl | exact cin_new (.tail _ (.tail _ (.head _))) rfl | exact cin_new (.tail _ (.tail _ (.tail _ (.head _)))) rfl | exact cin_new (.tail _ (.tail _ (.tail _ (.tail _ (.head _))))) rfl | exact cin_new (.tail _ (.tail _ (.tail _ (.tail _ (.tail _ (.head _)))))) rfl | exact cin_new (.tail _ (.tail _ (.tail _ (.tail _ (.tail _ (.tail _ (.head _))))))) rfl | exact cin_new (.tail _ (.tail _ (.tail _ (.tail _ (.tail _ (.tail _ (.tail _ (.head _)))))))) rfl)) ?_
  first | refine At.e rfl rfl rfl rfl .all (R.mulI .c (.t rfl) (fun hg => by first | omega | (simp at hg; omega))) ?_ | refine At.e rfl rfl rfl rfl .all (R.mul .c (.t rfl)) ?_
  first | refine At.e rfl rfl rfl rfl .all (R.addI .c (.t rfl) (fun hg => by first | omega | (simp at hg; omega))) ?_ | refine At.e rfl rfl rfl rfl .all (R.add .c (.t rfl)) ?_
  refine At.e rfl rfl rfl rfl .all (R.assign (.t rfl)) ?_
  refine At.nil ?_
  refine At.tN ?_
  refine At.ret ?_
  exact At.final rfl (.t rfl) (List.nil_sublist _) (⟨congrArg (Value.int .i64) (by omega), rfl, rfl⟩)

theorem c_Head {a b c d : Int} (h0 : 0 ≤ a) (h1 : a ≤ 1000000) : Fn Try.prog 79 [confV a b c d] [] [] (IsV (.int .i64 (7 + a))) := by
  refine Fn.enter Try.func79 (by kernel_rfl) rfl (n := 7) rfl rfl (fun w => ?_)
  refine At.seq ?_
  refine At.plain [(false, 0), (false, 1)] rfl ?_
  refine At.box rfl rfl rfl (.t rfl) (fun b1 hb1 => ⟨.all, ?_⟩)
  refine At.e rfl rfl rfl rfl .all (R.assign .c) ?_
  refine At.nil ?_
  refine At.tN ?_
  refine At.seq ?_
  refine At.plain [(false, 0), (false, 1), (false, 2), (false, 3), (false, 4)] rfl ?_
  refine At.e rfl rfl rfl rfl .all (R.fieldAddr fo_23_0 (.t rfl)) ?_
  refine At.e rfl rfl rfl rfl .all (R.load Try.underlying3 rfl (.t rfl) (by first | exact cin_new (.head _) rfl | exact cin_new (.tail _ (.head _)) rfl | exact cin_new (.tail _ (.tail _ (.head _))) rfl | exact cin_new (.tail _ (.tail _ (.tail _ (.head _)))) rfl | exact cin_new (.tail _ (.tail _ (.tail _ (.tail _ (.head _))))) rfl | exact cin_new (.tail _ (.tail _ (.tail _ (.tail _ (.tail _ (.head _)))))) rfl | exact cin_new (.tail _ (.tail _ (.tail _ (.tail _ (.tail _ (.tail _ (.head _))))))) rfl | exact cin_new (.tail _ (.tail _ (.tail _ (.tail _ (.tail _ (.tail _ (.tail _ (.head _)))))))) rfl)) ?_
  refine At.callV rfl rfl rfl (.cons (.t rfl) .nil) (fun hg => c_Psa (by omega) (by omega)) (by simp) .all ?_
  first | refine At.e rfl rfl rfl rfl .all (R.addI (.t rfl) .c (fun hg => by first | omega | (simp at hg; omega))) ?_ | refine At.e rfl rfl rfl rfl .all (R.add (.t rfl) .c) ?_
  refine At.e rfl rfl rfl rfl .all (R.assign (.t rfl)) ?_
  refine At.nil ?_
  refine At.tN ?_
  refine At.ret ?_
  exact At.final rfl (.t rfl) (List.nil_sublist _) (⟨congrArg (Value.int .i64) (by omega), rfl, rfl⟩)

theorem c_First {a b c d : Int} (h0 : 0 ≤ a) (h1 : a ≤ 1000000) : Fn Try.prog 69 [confV a b c d] [] [] (IsV (.int .i64 (14 + a))) := by
  refine Fn.enter Try.func69 (by kernel_rfl) rfl (n := 6) rfl rfl (fun w => ?_)
  refine At.seq ?_
  refine At.plain [(false, 0), (false, 1)] rfl ?_
  refine At.box rfl rfl rfl (.t rfl) (fun b1 hb1 => ⟨.all, ?_⟩)
  refine At.e rfl rfl rfl rfl .all (R.assign .c) ?_
  refine At.nil ?_
  refine At.tN ?_
  refine At.seq ?_
  refine At.plain [(false, 0), (false, 1), (false, 2), (false, 3)] rfl ?_
  refine At.e rfl rfl rfl rfl .all (R.loadAgg (vs := [_, _, _, _]) Try.underlying23 rfl sz_23 (.t rfl) (by first | exact csin_new (.head _) ⟨rfl, rfl, rfl, rfl, trivial⟩ | exact csin_new (.tail _ (.head _)) ⟨rfl, rfl, rfl, rfl, trivial⟩ | exact csin_new (.tail _ (.tail _ (.head _))) ⟨rfl, rfl, rfl, rfl, trivial⟩ | exact csin_new (.tail _ (.tail _ (.tail _ (.head _)))) ⟨rfl, rfl, rfl, rfl, trivial⟩ | exact csin_new (.tail _ (.tail _ (.tail _ (.tail _ (.head _))))) ⟨rfl, rfl, rfl, rfl, trivial⟩ | exact csin_new (.tail _ (.tail _ (.tail _ (.tail _ (.tail _ (.head _)))))) ⟨rfl, rfl, rfl, rfl, trivial⟩ | exact csin_new (.tail _ (.tail _ (.tail _ (.tail _ (.tail _ (.tail _ (.head _))))))) ⟨rfl, rfl, rfl, rfl, trivial⟩ | exact csin_new (.tail _ (.tail _ (.tail _ (.tail _ (.tail _ (.tail _ (.tail _ (.head _)))))))) ⟨rfl, rfl, rfl, rfl, trivial⟩)) ?_
  refine At.callV rfl rfl rfl (.cons (.t rfl) .nil) (fun hg => c_Head (by omega) (by omega)) (by simp) .all ?_
  first | refine At.e rfl rfl rfl rfl .all (R.addI (.t rfl) .c (fun hg => by first | omega | (simp at hg; omega))) ?_ | refine At.e rfl rfl rfl rfl .all (R.add (.t rfl) .c) ?_
  refine At.e rfl rfl rfl rfl .all (R.assign (.t rfl)) ?_
  refine At.nil ?_
  refine At.tN ?_
  refine At.ret ?_
  exact At.final rfl (.t rfl) (List.nil_sublist _) (⟨congrArg (Value.int .i64) (by omega), rfl, rfl⟩)

theorem c_Top {a b c d : Int} (h0 : 0 ≤ a) (h1 : a ≤ 1000000) (h2 : 0 ≤ b) (h3 : b ≤ 1000000) : Fn Try.prog 51 [confV a b c d] [] [] (IsV (.int .i64 (21 + a + 3 * b))) := by
  refine Fn.enter Try.func51 (by kernel_rfl) rfl (n := 8) rfl rfl (fun w => ?_)
  refine At.seq ?_
  refine At.plain [(false, 0), (false, 1)] rfl ?_
  refine At.box rfl rfl rfl (.t rfl) (fun b1 hb1 => ⟨.all, ?_⟩)
  refine At.e rfl rfl rfl rfl .all (R.assign .c) ?_
  refine At.nil ?_
  refine At.tN ?_
  refine At.seq ?_
  refine At.drawK [(true, 0), (true, 2), (false, 1), (false, 3), (true, 4), (true, 5)] (by kernel_rfl) (by kernel_rfl) ?_
  refine At.s rfl rfl rfl rfl (Cl.kept fun _ h => h) (R.loadAgg (vs := [_, _, _, _]) Try.underlying23 rfl sz_23 (.t rfl) (by first | exact csin_kept (.head _) ⟨rfl, rfl, rfl, rfl, trivial⟩ | exact csin_kept (.tail _ (.head _)) ⟨rfl, rfl, rfl, rfl, trivial⟩ | exact csin_kept (.tail _ (.tail _ (.head _))) ⟨rfl, rfl, rfl, rfl, trivial⟩ | exact csin_kept (.tail _ (.tail _ (.tail _ (.head _)))) ⟨rfl, rfl, rfl, rfl, trivial⟩ | exact csin_kept (.tail _ (.tail _ (.tail _ (.tail _ (.head _))))) ⟨rfl, rfl, rfl, rfl, trivial⟩ | exact csin_kept (.tail _ (.tail _ (.tail _ (.tail _ (.tail _ (.head _)))))) ⟨rfl, rfl, rfl, rfl, trivial⟩ | exact csin_kept (.tail _ (.tail _ (.tail _ (.tail _ (.tail _ (.tail _ (.head _))))))) ⟨rfl, rfl, rfl, rfl, trivial⟩ | exact csin_kept (.tail _ (.tail _ (.tail _ (.tail _ (.tail _ (.tail _ (.tail _ (.head _)))))))) ⟨rfl, rfl, rfl, rfl, trivial⟩)) ?_
  refine At.s rfl rfl rfl rfl (Cl.kept fun _ h => h) (R.loadAgg (vs := [_, _, _, _]) Try.underlying23 rfl sz_23 (.t rfl) (by first | exact csin_kept (.head _) ⟨rfl, rfl, rfl, rfl, trivial⟩ | exact csin_kept (.tail _ (.head _)) ⟨rfl, rfl, rfl, rfl, trivial⟩ | exact csin_kept (.tail _ (.tail _ (.head _))) ⟨rfl, rfl, rfl, rfl, trivial⟩ | exact csin_kept (.tail _ (.tail _ (.tail _ (.head _)))) ⟨rfl, rfl, rfl, rfl, trivial⟩ | exact csin_kept (.tail _ (.tail _ (.tail _ (.tail _ (.head _))))) ⟨rfl, rfl, rfl, rfl, trivial⟩ | exact csin_kept (.tail _ (.tail _ (.tail _ (.tail _ (.tail _ (.head _)))))) ⟨rfl, rfl, rfl, rfl, trivial⟩ | exact csin_kept (.tail _ (.tail _ (.tail _ (.tail _ (.tail _ (.tail _ (.head _))))))) ⟨rfl, rfl, rfl, rfl, trivial⟩ | exact csin_kept (.tail _ (.tail _ (.tail _ (.tail _ (.tail _ (.tail _ (.tail _ (.head _)))))))) ⟨rfl, rfl, rfl, rfl, trivial⟩)) ?_
  refine At.callV rfl rfl rfl (.cons (.t rfl) .nil) (fun hg => c_First (by omega) (by omega)) (by simp) (Cl.kept fun _ h => h) ?_
  refine At.callV rfl rfl rfl (.cons (.t rfl) .nil) (fun hg => c_Size (by omega) (by omega)) (by simp) (Cl.kept fun _ h => h) ?_
  first | refine At.s rfl rfl rfl rfl (Cl.kept fun _ h => h) (R.addI (.t rfl) (.t rfl) (fun hg => by first | omega | (simp at hg; omega))) ?_ | refine At.s rfl rfl rfl rfl (Cl.kept fun _ h => h) (R.add (.t rfl) (.t rfl)) ?_
  refine At.s rfl rfl rfl rfl (Cl.kept fun _ h => h) (R.assign (.t rfl)) ?_
  refine At.nil ?_
  refine At.tN ?_
  refine At.ret ?_
  exact At.final rfl (.t rfl) (List.nil_sublist _) (⟨congrArg (Value.int .i64) (by omega), rfl, rfl⟩)

theorem c_rSize {a b c d : Int} (h2 : 0 ≤ b) (h3 : b ≤ 1000000) : Fn Try.prog 26 [confV a b c d] [] [] (IsV (.int .i64 (7 + 3 * b))) := by
  refine Fn.enter Try.func26 (by kernel_rfl) rfl (n := 7) rfl rfl (fun w => ?_)
  refine At.seq ?_
  refine At.plain [(false, 0), (false, 1)] rfl ?_
  refine At.box rfl rfl rfl (.t rfl) (fun b1 hb1 => ⟨.all, ?_⟩)
  refine At.e rfl rfl rfl rfl .all (R.assign .c) ?_
  refine At.nil ?_
  refine At.tN ?_
  refine At.seq ?_
  refine At.plain [(false, 0), (false, 1), (false, 2), (false, 3), (false, 4)] rfl ?_
  refine At.e rfl rfl rfl rfl .all (R.fieldAddr fo_23_1 (.t rfl)) ?_
  refine At.e rfl rfl rfl rfl .all (R.load Try.underlying3 rfl (.t rfl) (by first | exact cin_new (.head _) rfl | exact cin_new (.tail _ (.head _)) rfl | exact cin_new (.tail _ (.tail _ (.head _))) rfl | exact cin_new (.tail _ (.tail _ (.tail _ (.head _)))) rfl | exact cin_new (.tail _ (.tail _ (.tail _ (.tail _ (.head _))))) rfl | exact cin_new (.tail _ (.tail _ (.tail _ (.tail _ (.tail _ (.head _)))))) rfl | exact cin_new (.tail _ (.tail _ (.tail _ (.tail _ (.tail _ (.tail _ (.head _))))))) rfl | exact cin_new (.tail _ (.tail _ (.tail _ (.tail _ (.tail _ (.tail _ (.tail _ (.head _)))))))) rfl)) ?_
  first | refine At.e rfl rfl rfl rfl .all (R.mulI .c (.t rfl) (fun hg => by first | omega | (simp at hg; omega))) ?_ | refine At.e rfl rfl rfl rfl .all (R.mul .c (.t rfl)) ?_
  first | refine At.e rfl rfl rfl rfl .all (R.addI .c (.t rfl) (fun hg => by first | omega | (simp at hg; omega))) ?_ | refine At.e rfl rfl rfl rfl .all (R.add .c (.t rfl)) ?_
  refine At.e rfl rfl rfl rfl .all (R.assign (.t rfl)) ?_
  refine At.nil ?_
  refine At.tN ?_
  refine At.ret ?_
  exact At.final rfl (.t rfl) (List.nil_sublist _) (⟨congrArg (Value.int .i64) (by omega), rfl, rfl⟩)

theorem c_rHead {a b c d : Int} (h0 : 0 ≤ a) (h1 : a ≤ 1000000) : Fn Try.prog 70 [confV a b c d] [] [] (IsV (.int .i64 (7 + a))) := by
  refine Fn.enter Try.func70 (by kernel_rfl) rfl (n := 7) rfl rfl (fun w => ?_)
  refine At.seq ?_
  refine At.plain [(false, 0), (false, 1)] rfl ?_
  refine At.box rfl rfl rfl (.t rfl) (fun b1 hb1 => ⟨.all, ?_⟩)
  refine At.e rfl rfl rfl rfl .all (R.assign .c) ?_
  refine At.nil ?_
  refine At.tN ?_
  refine At.seq ?_
  refine At.plain [(false, 0), (false, 1), (false, 2), (false, 3), (false, 4)] rfl ?_
  refine At.e rfl rfl rfl rfl .all (R.fieldAddr fo_23_0 (.t rfl)) ?_
  refine At.e rfl rfl rfl rfl .all (R.load Try.underlying3 rfl (.t rfl) (by first | exact cin_new (.head _) rfl | exact cin_new (.tail _ (.head _)) rfl | exact cin_new (.tail _ (.tail _ (.head _))) rfl | exact cin_new (.tail _ (.tail _ (.tail _ (.head _)))) rfl | exact cin_new (.tail _ (.tail _ (.tail _ (.tail _ (.head _))))) rfl | exact cin_new (.tail _ (.tail _ (.tail _ (.tail _ (.tail _ (.head _)))))) rfl | exact cin_new (.tail _ (.tail _ (.tail _ (.tail _ (.tail _ (.tail _ (.head _))))))) rfl | exact cin_new (.tail _ (.tail _ (.tail _ (.tail _ (.tail _ (.tail _ (.tail _ (.head _)))))))) rfl)) ?_
  first | refine At.e rfl rfl rfl rfl .all (R.addI .c (.t rfl) (fun hg => by first | omega | (simp at hg; omega))) ?_ | refine At.e rfl rfl rfl rfl .all (R.add .c (.t rfl)) ?_
  first | refine At.e rfl rfl rfl rfl .all (R.addI (.t rfl) .c (fun hg => by first | omega | (simp at hg; omega))) ?_ | refine At.e rfl rfl rfl rfl .all (R.add (.t rfl) .c) ?_
  refine At.e rfl rfl rfl rfl .all (R.assign (.t rfl)) ?_
  refine At.nil ?_
  refine At.tN ?_
  refine At.ret ?_
  exact At.final rfl (.t rfl) (List.nil_sublist _) (⟨congrArg (Value.int .i64) (by omega), rfl, rfl⟩)

theorem c_rFirst {a b c d : Int} (h0 : 0 ≤ a) (h1 : a ≤ 1000000) : Fn Try.prog 54 [confV a b c d] [] [] (IsV (.int .i64 (14 + a))) := by
  refine Fn.enter Try.func54 (by kernel_rfl) rfl (n := 6) rfl rfl (fun w => ?_)
  refine At.seq ?_
  refine At.plain [(false, 0), (false, 1)] rfl ?_
  refine At.box rfl rfl rfl (.t rfl) (fun b1 hb1 => ⟨.all, ?_⟩)
  refine At.e rfl rfl rfl rfl .all (R.assign .c) ?_
  refine At.nil ?_
  refine At.tN ?_
  refine At.seq ?_
  refine At.plain [(false, 0), (false, 1), (false, 2), (false, 3)] rfl ?_
  refine At.e rfl rfl rfl rfl .all (R.loadAgg (vs := [_, _, _, _]) Try.underlying23 rfl sz_23 (.t rfl) (by first | exact csin_new (.head _) ⟨rfl, rfl, rfl, rfl, trivial⟩ | exact csin_new (.tail _ (.head _)) ⟨rfl, rfl, rfl, rfl, trivial⟩ | exact csin_new (.tail _ (.tail _ (.head _))) ⟨rfl, rfl, rfl, rfl, trivial⟩ | exact csin_new (.tail _ (.tail _ (.tail _ (.head _)))) ⟨rfl, rfl, rfl, rfl, trivial⟩ | exact csin_new (.tail _ (.tail _ (.tail _ (.tail _ (.head _))))) ⟨rfl, rfl, rfl, rfl, trivial⟩ | exact csin_new (.tail _ (.tail _ (.tail _ (.tail _ (.tail _ (.head _)))))) ⟨rfl, rfl, rfl, rfl, trivial⟩ | exact csin_new (.tail _ (.tail _ (.tail _ (.tail _ (.tail _ (.tail _ (.head _))))))) ⟨rfl, rfl, rfl, rfl, trivial⟩ | exact csin_new (.tail _ (.tail _ (.tail _ (.tail _ (.tail _ (.tail _ (.tail _ (.head _)))))))) ⟨rfl, rfl, rfl, rfl, trivial⟩)) ?_
  refine At.callV rfl rfl rfl (.cons (.t rfl) .nil) (fun hg => c_rHead (by omega) (by omega)) (by simp) .all ?_
  first | refine At.e rfl rfl rfl rfl .all (R.addI (.t rfl) .c (fun hg => by first | omega | (simp at hg; omega))) ?_ | refine At.e rfl rfl rfl rfl .all (R.add (.t rfl) .c) ?_
  refine At.e rfl rfl rfl rfl .all (R.assign (.t rfl)) ?_
  refine At.nil ?_
  refine At.tN ?_
  refine At.ret ?_
  exact At.final rfl (.t rfl) (List.nil_sublist _) (⟨congrArg (Value.int .i64) (by omega), rfl, rfl⟩)

theorem c_rTop {a b c d : Int} (h0 : 0 ≤ a) (h1 : a ≤ 1000000) (h2 : 0 ≤ b) (h3 : b ≤ 1000000) : Fn Try.prog 27 [confV a b c d] [] [] (IsV (.int .i64 (21 + a + 3 * b))) := by
  refine Fn.enter Try.func27 (by kernel_rfl) rfl (n := 8) rfl rfl (fun w => ?_)
  refine At.seq ?_
  refine At.plain [(false, 0), (false, 1)] rfl ?_
  refine At.box rfl rfl rfl (.t rfl) (fun b1 hb1 => ⟨.all, ?_⟩)
  refine At.e rfl rfl rfl rfl .all (R.assign .c) ?_
  refine At.nil ?_
  refine At.tN ?_
  refine At.seq ?_
  refine At.drawK [(true, 0), (true, 2), (false, 1), (false, 3), (true, 4), (true, 5)] (by kernel_rfl) (by kernel_rfl) ?_
  refine At.s rfl rfl rfl rfl (Cl.kept fun _ h => h) (R.loadAgg (vs := [_, _, _, _]) Try.underlying23 rfl sz_23 (.t rfl) (by first | exact csin_kept (.head _) ⟨rfl, rfl, rfl, rfl, trivial⟩ | exact csin_kept (.tail _ (.head _)) ⟨rfl, rfl, rfl, rfl, trivial⟩ | exact csin_kept (.tail _ (.tail _ (.head _))) ⟨rfl, rfl, rfl, rfl, trivial⟩ | exact csin_kept (.tail _ (.tail _ (.tail _ (.head _)))) ⟨rfl, rfl, rfl, rfl, trivial⟩ | exact csin_kept (.tail _ (.tail _ (.tail _ (.tail _ (.head _))))) ⟨rfl, rfl, rfl, rfl, trivial⟩ | exact csin_kept (.tail _ (.tail _ (.tail _ (.tail _ (.tail _ (.head _)))))) ⟨rfl, rfl, rfl, rfl, trivial⟩ | exact csin_kept (.tail _ (.tail _ (.tail _ (.tail _ (.tail _ (.tail _ (.head _))))))) ⟨rfl, rfl, rfl, rfl, trivial⟩ | exact csin_kept (.tail _ (.tail _ (.tail _ (.tail _ (.tail _ (.tail _ (.tail _ (.head _)))))))) ⟨rfl, rfl, rfl, rfl, trivial⟩)) ?_
  refine At.s rfl rfl rfl rfl (Cl.kept fun _ h => h) (R.loadAgg (vs := [_, _, _, _]) Try.underlying23 rfl sz_23 (.t rfl) (by first | exact csin_kept (.head _) ⟨rfl, rfl, rfl, rfl, trivial⟩ | exact csin_kept (.tail _ (.head _)) ⟨rfl, rfl, rfl, rfl, trivial⟩ | exact csin_kept (.tail _ (.tail _ (.head _))) ⟨rfl, rfl, rfl, rfl, trivial⟩ | exact csin_kept (.tail _ (.tail _ (.tail _ (.head _)))) ⟨rfl, rfl, rfl, rfl, trivial⟩ | exact csin_kept (.tail _ (.tail _ (.tail _ (.tail _ (.head _))))) ⟨rfl, rfl, rfl, rfl, trivial⟩ | exact csin_kept (.tail _ (.tail _ (.tail _ (.tail _ (.tail _ (.head _)))))) ⟨rfl, rfl, rfl, rfl, trivial⟩ | exact csin_kept (.tail _ (.tail _ (.tail _ (.tail _ (.tail _ (.tail _ (.head _))))))) ⟨rfl, rfl, rfl, rfl, trivial⟩ | exact csin_kept (.tail _ (.tail _ (.tail _ (.tail _ (.tail _ (.tail _ (.tail _ (.head _)))))))) ⟨rfl, rfl, rfl, rfl, trivial⟩)) ?_
  refine At.callV rfl rfl rfl (.cons (.t rfl) .nil) (fun hg => c_rFirst (by omega) (by omega)) (by simp) (Cl.kept fun _ h => h) ?_
  refine At.callV rfl rfl rfl (.cons (.t rfl) .nil) (fun hg => c_rSize (by omega) (by omega)) (by simp) (Cl.kept fun _ h => h) ?_
  first | refine At.s rfl rfl rfl rfl (Cl.kept fun _ h => h) (R.addI (.t rfl) (.t rfl) (fun hg => by first | omega | (simp at hg; omega))) ?_ | refine At.s rfl rfl rfl rfl (Cl.kept fun _ h => h) (R.add (.t rfl) (.t rfl)) ?_
  refine At.s rfl rfl rfl rfl (Cl.kept fun _ h => h) (R.assign (.t rfl)) ?_
  refine At.nil ?_
  refine At.tN ?_
  refine At.ret ?_
  exact At.final rfl (.t rfl) (List.nil_sublist _) (⟨congrArg (Value.int .i64) (by omega), rfl, rfl⟩)

theorem c_sum {x y z : Int} (h0 : 0 ≤ x) (h1 : x ≤ 10000000000000) (h2 : 0 ≤ y) (h3 : y ≤ 10000000000000) (h4 : 0 ≤ z) (h5 : z ≤ 10000000000000) : Fn Try.prog 53 [.agg #[.int .i64 x, .int .i64 y, .int .i64 z]] [] [] (IsV (.int .i64 (x + y + z))) := by
  refine Fn.enter Try.func53 (by kernel_rfl) rfl (n := 11) rfl rfl (fun w => ?_)
  refine At.seq ?_
  refine At.plain [(false, 0), (false, 1)] rfl ?_
  refine At.box rfl rfl rfl (.t rfl) (fun b1 hb1 => ⟨.all, ?_⟩)
  refine At.e rfl rfl rfl rfl .all (R.assign .c) ?_
  refine At.nil ?_
  refine At.tN ?_
  refine At.seq ?_
  refine At.plain [(false, 0), (false, 1), (false, 2), (false, 3), (false, 4), (false, 5), (false, 6), (false, 7), (false, 8)] rfl ?_
  refine At.e rfl rfl rfl rfl .all (R.indexArr Try.underlying63 sz_3 (.t rfl) .c (fun hg => by first | omega | (simp at hg; omega))) ?_
  refine At.e rfl rfl rfl rfl .all (R.load Try.underlying3 rfl (.t rfl) (by first | exact cin_new (.head _) rfl | exact cin_new (.tail _ (.head _)) rfl | exact cin_new (.tail _ (.tail _ (.head _))) rfl | exact cin_new (.tail _ (.tail _ (.tail _ (.head _)))) rfl | exact cin_new (.tail _ (.tail _ (.tail _ (.tail _ (.head _))))) rfl | exact cin_new (.tail _ (.tail _ (.tail _ (.tail _ (.tail _ (.head _)))))) rfl | exact cin_new (.tail _ (.tail _ (.tail _ (.tail _ (.tail _ (.tail _ (.head _))))))) rfl | exact cin_new (.tail _ (.tail _ (.tail _ (.tail _ (.tail _ (.tail _ (.tail _ (.head _)))))))) rfl)) ?_
  refine At.e rfl rfl rfl rfl .all (R.indexArr Try.underlying63 sz_3 (.t rfl) .c (fun hg => by first | omega | (simp at hg; omega))) ?_
  refine At.e rfl rfl rfl rfl .all (R.load Try.underlying3 rfl (.t rfl) (by first | exact cin_new (.head _) rfl | exact cin_new (.tail _ (.head _)) rfl | exact cin_new (.tail _ (.tail _ (.head _))) rfl | exact cin_new (.tail _ (.tail _ (.tail _ (.head _)))) rfl | exact cin_new (.tail _ (.tail _ (.tail _ (.tail _ (.head _))))) rfl | exact cin_new (.tail _ (.tail _ (.tail _ (.tail _ (.tail _ (.head _)))))) rfl | exact cin_new (.tail _ (.tail _ (.tail _ (.tail _ (.tail _ (.tail _ (.head _))))))) rfl | exact cin_new (.tail _ (.tail _ (.tail _ (.tail _ (.tail _ (.tail _ (.tail _ (.head _)))))))) rfl)) ?_
  first | refine At.e rfl rfl rfl rfl .all (R.addI (.t rfl) (.t rfl) (fun hg => by first | omega | (simp at hg; omega))) ?_ | refine At.e rfl rfl rfl rfl .all (R.add (.t rfl) (.t rfl)) ?_
  refine At.e rfl rfl rfl rfl .all (R.indexArr Try.underlying63 sz_3 (.t rfl) .c (fun hg => by first | omega | (simp at hg; omega))) ?_
  refine At.e rfl rfl rfl rfl .all (R.load Try.underlying3 rfl (.t rfl) (by first | exact cin_new (.head _) rfl | exact cin_new (.tail _ (.head _)) rfl | exact cin_new (.tail _ (.tail _ (.head _))) rfl | exact cin_new (.tail _ (.tail _ (.tail _ (.head _)))) rfl | exact cin_new (.tail _ (.tail _ (.tail _ (.tail _ (.head _))))) rfl | exact cin_new (.tail _ (.tail _ (.tail _ (.tail _ (.tail _ (.head _)))))) rfl | exact cin_new (.tail _ (.tail _ (.tail _ (.tail _ (.tail _ (.tail _ (.head _))))))) rfl | exact cin_new (.tail _ (.tail _ (.tail _ (.tail _ (.tail _ (.tail _ (.tail _ (.head _)))))))) rfl)) ?_
  first | refine At.e rfl rfl rfl rfl .all (R.addI (.t rfl) (.t rfl) (fun hg => by first | omega | (simp at hg; omega))) ?_ | refine At.e rfl rfl rfl rfl .all (R.add (.t rfl) (.t rfl)) ?_
  refine At.e rfl rfl rfl rfl .all (R.assign (.t rfl)) ?_
  refine At.nil ?_
  refine At.tN ?_
  refine At.ret ?_
  exact At.final rfl (.t rfl) (List.nil_sublist _) (⟨congrArg (Value.int .i64) (by omega), rfl, rfl⟩)

theorem c_Chunks {a b c d m : Int} (h0 : 0 ≤ a) (h1 : a ≤ 1000000) (h2 : 0 ≤ b) (h3 : b ≤ 1000000) (h4 : 0 ≤ m) (h5 : m ≤ 1000000) : Fn Try.prog 18 [confV a b c d, .int .i64 m] [] [] (IsV (.int .i64 (chunksF a b m))) := by
  have hq := chunks_quo a b m h0 h1 h2 h3 h4 h5
  refine Fn.enter Try.func18 (by kernel_rfl) rfl (n := 14) rfl rfl (fun w => ?_)
  refine At.seq ?_
  refine At.plain [(false, 0), (false, 1)] rfl ?_
  refine At.box rfl rfl rfl (.t rfl) (fun b1 hb1 => ⟨.all, ?_⟩)
  refine At.e rfl rfl rfl rfl .all (R.assign .c) ?_
  refine At.nil ?_
  refine At.tN ?_
  refine At.seq ?_
  refine At.drawK [(true, 0), (true, 1), (true, 5), (false, 2), (true, 3), (true, 4), (false, 6), (true, 7), (true, 8), (true, 9)] (by kernel_rfl) (by kernel_rfl) ?_
  refine At.s rfl rfl rfl rfl (Cl.kept fun _ h => h) (R.move (.t rfl)) ?_
  refine At.s rfl rfl rfl rfl (Cl.kept fun _ h => h) (R.loadAgg (vs := [_, _, _, _]) Try.underlying23 rfl sz_23 (.t rfl) (by first | exact csin_kept (.head _) ⟨rfl, rfl, rfl, rfl, trivial⟩ | exact csin_kept (.tail _ (.head _)) ⟨rfl, rfl, rfl, rfl, trivial⟩ | exact csin_kept (.tail _ (.tail _ (.head _))) ⟨rfl, rfl, rfl, rfl, trivial⟩ | exact csin_kept (.tail _ (.tail _ (.tail _ (.head _)))) ⟨rfl, rfl, rfl, rfl, trivial⟩ | exact csin_kept (.tail _ (.tail _ (.tail _ (.tail _ (.head _))))) ⟨rfl, rfl, rfl, rfl, trivial⟩ | exact csin_kept (.tail _ (.tail _ (.tail _ (.tail _ (.tail _ (.head _)))))) ⟨rfl, rfl, rfl, rfl, trivial⟩ | exact csin_kept (.tail _ (.tail _ (.tail _ (.tail _ (.tail _ (.tail _ (.head _))))))) ⟨rfl, rfl, rfl, rfl, trivial⟩ | exact csin_kept (.tail _ (.tail _ (.tail _ (.tail _ (.tail _ (.tail _ (.tail _ (.head _)))))))) ⟨rfl, rfl, rfl, rfl, trivial⟩)) ?_
  refine At.s rfl rfl rfl rfl (Cl.kept fun _ h => h) (R.loadAgg (vs := [_, _, _, _]) Try.underlying23 rfl sz_23 (.t rfl) (by first | exact csin_kept (.head _) ⟨rfl, rfl, rfl, rfl, trivial⟩ | exact csin_kept (.tail _ (.head _)) ⟨rfl, rfl, rfl, rfl, trivial⟩ | exact csin_kept (.tail _ (.tail _ (.head _))) ⟨rfl, rfl, rfl, rfl, trivial⟩ | exact csin_kept (.tail _ (.tail _ (.tail _ (.head _)))) ⟨rfl, rfl, rfl, rfl, trivial⟩ | exact csin_kept (.tail _ (.tail _ (.tail _ (.tail _ (.head _))))) ⟨rfl, rfl, rfl, rfl, trivial⟩ | exact csin_kept (.tail _ (.tail _ (.tail _ (.tail _ (.tail _ (.head _)))))) ⟨rfl, rfl, rfl, rfl, trivial⟩ | exact csin_kept (.tail _ (.tail _ (.tail _ (.tail _ (.tail _ (.tail _ (.head _))))))) ⟨rfl, rfl, rfl, rfl, trivial⟩ | exact csin_kept (.tail _ (.tail _ (.tail _ (.tail _ (.tail _ (.tail _ (.tail _ (.head _)))))))) ⟨rfl, rfl, rfl, rfl, trivial⟩)) ?_
  refine At.callV rfl rfl rfl (.cons (.t rfl) .nil) (fun hg => c_Top (by omega) (by omega) (by omega) (by omega)) (by simp) (Cl.kept fun _ h => h) ?_
  first | refine At.s rfl rfl rfl rfl (Cl.kept fun _ h => h) (R.subI (.t rfl) (.t rfl) (fun hg => by first | omega | (simp at hg; omega))) ?_ | refine At.s rfl rfl rfl rfl (Cl.kept fun _ h => h) (R.sub (.t rfl) (.t rfl)) ?_
  refine At.s rfl rfl rfl rfl (Cl.kept fun _ h => h) (R.max2 (.t rfl) .c) ?_
  refine At.callV rfl rfl rfl (.cons (.t rfl) .nil) (fun hg => c_Size (by omega) (by omega)) (by simp) (Cl.kept fun _ h => h) ?_
  first | refine At.s rfl rfl rfl rfl (Cl.kept fun _ h => h) (R.quoI (.t rfl) (.t rfl) (fun hg => by first | omega | (simp at hg; omega))) ?_ | refine At.s rfl rfl rfl rfl (Cl.kept fun _ h => h) (R.quo (.t rfl) (.t rfl) (fun hg => by first | omega | (simp at hg; omega))) ?_
  first | refine At.s rfl rfl rfl rfl (Cl.kept fun _ h => h) (R.addI .c (.t rfl) (fun hg => by first | omega | (simp at hg; omega))) ?_ | refine At.s rfl rfl rfl rfl (Cl.kept fun _ h => h) (R.add .c (.t rfl)) ?_
  refine At.s rfl rfl rfl rfl (Cl.kept fun _ h => h) (R.assign (.t rfl)) ?_
  refine At.nil ?_
  refine At.tN ?_
  refine At.ret ?_
  exact At.final rfl (.t rfl) (List.nil_sublist _) (⟨congrArg (Value.int .i64) rfl, rfl, rfl⟩)

theorem c_rChunks {a b c d m : Int} (h0 : 0 ≤ a) (h1 : a ≤ 1000000) (h2 : 0 ≤ b) (h3 : b ≤ 1000000) (h4 : 0 ≤ m) (h5 : m ≤ 1000000) : Fn Try.prog 19 [confV a b c d, .int .i64 m] [] [] (IsV (.int .i64 (chunksF a b m))) := by
  have hq := chunks_quo a b m h0 h1 h2 h3 h4 h5
  refine Fn.enter Try.func19 (by kernel_rfl) rfl (n := 14) rfl rfl (fun w => ?_)
  refine At.seq ?_
  refine At.plain [(false, 0), (false, 1)] rfl ?_
  refine At.box rfl rfl rfl (.t rfl) (fun b1 hb1 => ⟨.all, ?_⟩)
  refine At.e rfl rfl rfl rfl .all (R.assign .c) ?_
  refine At.nil ?_
  refine At.tN ?_
  refine At.seq ?_
  refine At.drawK [(true, 0), (true, 1), (true, 5), (false, 2), (true, 3), (true, 4), (false, 6), (true, 7), (true, 8), (true, 9)] (by kernel_rfl) (by kernel_rfl) ?_
  refine At.s rfl rfl rfl rfl (Cl.kept fun _ h => h) (R.move (.t rfl)) ?_
  refine At.s rfl rfl rfl rfl (Cl.kept fun _ h => h) (R.loadAgg (vs := [_, _, _, _]) Try.underlying23 rfl sz_23 (.t rfl) (by first | exact csin_kept (.head _) ⟨rfl, rfl, rfl, rfl, trivial⟩ | exact csin_kept (.tail _ (.head _)) ⟨rfl, rfl, rfl, rfl, trivial⟩ | exact csin_kept (.tail _ (.tail _ (.head _))) ⟨rfl, rfl, rfl, rfl, trivial⟩ | exact csin_kept (.tail _ (.tail _ (.tail _ (.head _)))) ⟨rfl, rfl, rfl, rfl, trivial⟩ | exact csin_kept (.tail _ (.tail _ (.tail _ (.tail _ (.head _))))) ⟨rfl, rfl, rfl, rfl, trivial⟩ | exact csin_kept (.tail _ (.tail _ (.tail _ (.tail _ (.tail _ (.head _)))))) ⟨rfl, rfl, rfl, rfl, trivial⟩ | exact csin_kept (.tail _ (.tail _ (.tail _ (.tail _ (.tail _ (.tail _ (.head _))))))) ⟨rfl, rfl, rfl, rfl, trivial⟩ | exact csin_kept (.tail _ (.tail _ (.tail _ (.tail _ (.tail _ (.tail _ (.tail _ (.head _)))))))) ⟨rfl, rfl, rfl, rfl, trivial⟩)) ?_
  refine At.s rfl rfl rfl rfl (Cl.kept fun _ h => h) (R.loadAgg (vs := [_, _, _, _]) Try.underlying23 rfl sz_23 (.t rfl) (by first | exact csin_kept (.head _) ⟨rfl, rfl, rfl, rfl, trivial⟩ | exact csin_kept (.tail _ (.head _)) ⟨rfl, rfl, rfl, rfl, trivial⟩ | exact csin_kept (.tail _ (.tail _ (.head _))) ⟨rfl, rfl, rfl, rfl, trivial⟩ | exact csin_kept (.tail _ (.tail _ (.tail _ (.head _)))) ⟨rfl, rfl, rfl, rfl, trivial⟩ | exact csin_kept (.tail _ (.tail _ (.tail _ (.tail _ (.head _))))) ⟨rfl, rfl, rfl, rfl, trivial⟩ | exact csin_kept (.tail _ (.tail _ (.tail _ (.tail _ (.tail _ (.head _)))))) ⟨rfl, rfl, rfl, rfl, trivial⟩ | exact csin_kept (.tail _ (.tail _ (.tail _ (.tail _ (.tail _ (.tail _ (.head _))))))) ⟨rfl, rfl, rfl, rfl, trivial⟩ | exact csin_kept (.tail _ (.tail _ (.tail _ (.tail _ (.tail _ (.tail _ (.tail _ (.head _)))))))) ⟨rfl, rfl, rfl, rfl, trivial⟩)) ?_
  refine At.callV rfl rfl rfl (.cons (.t rfl) .nil) (fun hg => c_rTop (by omega) (by omega) (by omega) (by omega)) (by simp) (Cl.kept fun _ h => h) ?_
  first | refine At.s rfl rfl rfl rfl (Cl.kept fun _ h => h) (R.subI (.t rfl) (.t rfl) (fun hg => by first | omega | (simp at hg; omega))) ?_ | refine At.s rfl rfl rfl rfl (Cl.kept fun _ h => h) (R.sub (.t rfl) (.t rfl)) ?_
  refine At.s rfl rfl rfl rfl (Cl.kept fun _ h => h) (R.max2 .c (.t rfl)) ?_
  refine At.callV rfl rfl rfl (.cons (.t rfl) .nil) (fun hg => c_rSize (by omega) (by omega)) (by simp) (Cl.kept fun _ h => h) ?_
  first | refine At.s rfl rfl rfl rfl (Cl.kept fun _ h => h) (R.quoI (.t rfl) (.t rfl) (fun hg => by first | omega | (simp at hg; omega))) ?_ | refine At.s rfl rfl rfl rfl (Cl.kept fun _ h => h) (R.quo (.t rfl) (.t rfl) (fun hg => by first | omega | (simp at hg; omega))) ?_
  first | refine At.s rfl rfl rfl rfl (Cl.kept fun _ h => h) (R.addI .c (.t rfl) (fun hg => by first | omega | (simp at hg; omega))) ?_ | refine At.s rfl rfl rfl rfl (Cl.kept fun _ h => h) (R.add .c (.t rfl)) ?_
  refine At.s rfl rfl rfl rfl (Cl.kept fun _ h => h) (R.assign (.t rfl)) ?_
  refine At.nil ?_
  refine At.tN ?_
  refine At.ret ?_
  exact At.final rfl (.t rfl) (List.nil_sublist _) (⟨congrArg (Value.int .i64) (by unfold chunksF; rw [Int.max_comm]), rfl, rfl⟩)

theorem c_Get {a b c d m : Int} (h2 : 0 ≤ b) (h3 : b ≤ 1000000) (h4 : 0 ≤ m) (h5 : m ≤ 1000000) : Fn Try.prog 20 [confV a b c d, .int .i64 m] [] [] (IsV (.int .i64 (5 + 2 * m + 6 * b))) := by
  refine Fn.enter Try.func20 (by kernel_rfl) rfl (n := 12) rfl rfl (fun w => ?_)
  refine At.seq ?_
  refine At.plain [(false, 0), (false, 1)] rfl ?_
  refine At.box rfl rfl rfl (.t rfl) (fun b1 hb1 => ⟨.all, ?_⟩)
  refine At.e rfl rfl rfl rfl .all (R.assign .c) ?_
  refine At.nil ?_
  refine At.tN ?_
  refine At.seq ?_
  refine At.plain [(false, 0), (false, 1), (false, 2), (false, 3), (false, 4), (false, 5), (false, 6), (false, 7)] rfl ?_
  refine At.e rfl rfl rfl rfl .all (R.move (.t rfl)) ?_
  first | refine At.e rfl rfl rfl rfl .all (R.mulI .c (.t rfl) (fun hg => by first | omega | (simp at hg; omega))) ?_ | refine At.e rfl rfl rfl rfl .all (R.mul .c (.t rfl)) ?_
  refine At.e rfl rfl rfl rfl .all (R.fieldAddr fo_23_1 (.t rfl)) ?_
  refine At.e rfl rfl rfl rfl .all (R.load Try.underlying3 rfl (.t rfl) (by first | exact cin_new (.head _) rfl | exact cin_new (.tail _ (.head _)) rfl | exact cin_new (.tail _ (.tail _ (.head _))) rfl | exact cin_new (.tail _ (.tail _ (.tail _ (.head _)))) rfl | exact cin_new (.tail _ (.tail _ (.tail _ (.tail _ (.head _))))) rfl | exact cin_new (.tail _ (.tail _ (.tail _ (.tail _ (.tail _ (.head _)))))) rfl | exact cin_new (.tail _ (.tail _ (.tail _ (.tail _ (.tail _ (.tail _ (.head _))))))) rfl | exact cin_new (.tail _ (.tail _ (.tail _ (.tail _ (.tail _ (.tail _ (.tail _ (.head _)))))))) rfl)) ?_
  first | refine At.e rfl rfl rfl rfl .all (R.mulI .c (.t rfl) (fun hg => by first | omega | (simp at hg; omega))) ?_ | refine At.e rfl rfl rfl rfl .all (R.mul .c (.t rfl)) ?_
  refine At.e rfl rfl rfl rfl .all (R.build bt_63 (.cons .c (.cons (.t rfl) (.cons (.t rfl) .nil))) (.cons rfl (.cons rfl (.cons rfl .nil))) rfl) ?_
  refine At.callV rfl rfl rfl (.cons (.t rfl) .nil) (fun hg => c_sum (by omega) (by omega) (by omega) (by omega) (by omega) (by omega)) (by simp) .all ?_
  refine At.e rfl rfl rfl rfl .all (R.assign (.t rfl)) ?_
  refine At.nil ?_
  refine At.tN ?_
  refine At.ret ?_
  exact At.final rfl (.t rfl) (List.nil_sublist _) (⟨congrArg (Value.int .i64) (by omega), rfl, rfl⟩)

theorem c_rGet {a b c d m : Int} (h2 : 0 ≤ b) (h3 : b ≤ 1000000) (h4 : 0 ≤ m) (h5 : m ≤ 1000000) : Fn Try.prog 21 [confV a b c d, .int .i64 m] [] [] (IsV (.int .i64 (5 + 2 * m + 6 * b))) := by
  refine Fn.enter Try.func21 (by kernel_rfl) rfl (n := 12) rfl rfl (fun w => ?_)
  refine At.seq ?_
  refine At.plain [(false, 0), (false, 1)] rfl ?_
  refine At.box rfl rfl rfl (.t rfl) (fun b1 hb1 => ⟨.all, ?_⟩)
  refine At.e rfl rfl rfl rfl .all (R.assign .c) ?_
  refine At.nil ?_
  refine At.tN ?_
  refine At.seq ?_
  refine At.plain [(false, 0), (false, 1), (false, 2), (false, 3), (false, 4), (false, 5), (false, 6), (false, 7)] rfl ?_
  refine At.e rfl rfl rfl rfl .all (R.move (.t rfl)) ?_
  first | refine At.e rfl rfl rfl rfl .all (R.mulI .c (.t rfl) (fun hg => by first | omega | (simp at hg; omega))) ?_ | refine At.e rfl rfl rfl rfl .all (R.mul .c (.t rfl)) ?_
  first | refine At.e rfl rfl rfl rfl .all (R.addI .c (.t rfl) (fun hg => by first | omega | (simp at hg; omega))) ?_ | refine At.e rfl rfl rfl rfl .all (R.add .c (.t rfl)) ?_
  refine At.e rfl rfl rfl rfl .all (R.fieldAddr fo_23_1 (.t rfl)) ?_
  refine At.e rfl rfl rfl rfl .all (R.load Try.underlying3 rfl (.t rfl) (by first | exact cin_new (.head _) rfl | exact cin_new (.tail _ (.head _)) rfl | exact cin_new (.tail _ (.tail _ (.head _))) rfl | exact cin_new (.tail _ (.tail _ (.tail _ (.head _)))) rfl | exact cin_new (.tail _ (.tail _ (.tail _ (.tail _ (.head _))))) rfl | exact cin_new (.tail _ (.tail _ (.tail _ (.tail _ (.tail _ (.head _)))))) rfl | exact cin_new (.tail _ (.tail _ (.tail _ (.tail _ (.tail _ (.tail _ (.head _))))))) rfl | exact cin_new (.tail _ (.tail _ (.tail _ (.tail _ (.tail _ (.tail _ (.tail _ (.head _)))))))) rfl)) ?_
  first | refine At.e rfl rfl rfl rfl .all (R.mulI .c (.t rfl) (fun hg => by first | omega | (simp at hg; omega))) ?_ | refine At.e rfl rfl rfl rfl .all (R.mul .c (.t rfl)) ?_
  first | refine At.e rfl rfl rfl rfl .all (R.addI (.t rfl) (.t rfl) (fun hg => by first | omega | (simp at hg; omega))) ?_ | refine At.e rfl rfl rfl rfl .all (R.add (.t rfl) (.t rfl)) ?_
  refine At.e rfl rfl rfl rfl .all (R.assign (.t rfl)) ?_
  refine At.nil ?_
  refine At.tN ?_
  refine At.ret ?_
  exact At.final rfl (.t rfl) (List.nil_sublist _) (⟨congrArg (Value.int .i64) (by omega), rfl, rfl⟩)

theorem c_Scan {a b c d m : Int} (h2 : 0 ≤ b) (h3 : b ≤ 1000000) (h4 : 0 ≤ m) (h5 : m ≤ 1000000) : Fn Try.prog 22 [confV a b c d, .int .i64 m] [] [] (IsV (.int .i64 (10 + 2 * m + m * (3 + 6 * b)))) := by
  have hp := prod_bd m (3 + 6 * b) (by omega) (by omega) (by omega) (by omega)
  refine Fn.enter Try.func22 (by kernel_rfl) rfl (n := 15) rfl rfl (fun w => ?_)
  refine At.seq ?_
  refine At.plain [(false, 0), (false, 1)] rfl ?_
  refine At.box rfl rfl rfl (.t rfl) (fun b1 hb1 => ⟨.all, ?_⟩)
  refine At.e rfl rfl rfl rfl .all (R.assign .c) ?_
  refine At.nil ?_
  refine At.tN ?_
  refine At.seq ?_
  refine At.plain [(false, 0), (false, 1), (false, 2), (false, 3), (false, 4), (false, 5), (false, 6), (false, 7), (false, 8), (false, 9), (false, 10)] rfl ?_
  refine At.e rfl rfl rfl rfl .all (R.move (.t rfl)) ?_
  first | refine At.e rfl rfl rfl rfl .all (R.mulI .c (.t rfl) (fun hg => by first | omega | (simp at hg; omega))) ?_ | refine At.e rfl rfl rfl rfl .all (R.mul .c (.t rfl)) ?_
  refine At.e rfl rfl rfl rfl .all (R.move (.t rfl)) ?_
  refine At.e rfl rfl rfl rfl .all (R.fieldAddr fo_23_1 (.t rfl)) ?_
  refine At.e rfl rfl rfl rfl .all (R.load Try.underlying3 rfl (.t rfl) (by first | exact cin_new (.head _) rfl | exact cin_new (.tail _ (.head _)) rfl | exact cin_new (.tail _ (.tail _ (.head _))) rfl | exact cin_new (.tail _ (.tail _ (.tail _ (.head _)))) rfl | exact cin_new (.tail _ (.tail _ (.tail _ (.tail _ (.head _))))) rfl | exact cin_new (.tail _ (.tail _ (.tail _ (.tail _ (.tail _ (.head _)))))) rfl | exact cin_new (.tail _ (.tail _ (.tail _ (.tail _ (.tail _ (.tail _ (.head _))))))) rfl | exact cin_new (.tail _ (.tail _ (.tail _ (.tail _ (.tail _ (.tail _ (.tail _ (.head _)))))))) rfl)) ?_
  first | refine At.e rfl rfl rfl rfl .all (R.mulI .c (.t rfl) (fun hg => by first | omega | (simp at hg; omega))) ?_ | refine At.e rfl rfl rfl rfl .all (R.mul .c (.t rfl)) ?_
  first | refine At.e rfl rfl rfl rfl .all (R.addI .c (.t rfl) (fun hg => by first | omega | (simp at hg; omega))) ?_ | refine At.e rfl rfl rfl rfl .all (R.add .c (.t rfl)) ?_
  first | refine At.e rfl rfl rfl rfl .all (R.mulI (.t rfl) (.t rfl) (fun hg => by first | omega | (simp at hg; omega))) ?_ | refine At.e rfl rfl rfl rfl .all (R.mul (.t rfl) (.t rfl)) ?_
  refine At.e rfl rfl rfl rfl .all (R.build bt_63 (.cons .c (.cons (.t rfl) (.cons (.t rfl) .nil))) (.cons rfl (.cons rfl (.cons rfl .nil))) rfl) ?_
  refine At.callV rfl rfl rfl (.cons (.t rfl) .nil) (fun hg => c_sum (by omega) (by omega) (by omega) (by omega) (by omega) (by omega)) (by simp) .all ?_
  refine At.e rfl rfl rfl rfl .all (R.assign (.t rfl)) ?_
  refine At.nil ?_
  refine At.tN ?_
  refine At.ret ?_
  exact At.final rfl (.t rfl) (List.nil_sublist _) (⟨congrArg (Value.int .i64) (by omega), rfl, rfl⟩)

theorem c_rScan {a b c d m : Int} (h2 : 0 ≤ b) (h3 : b ≤ 1000000) (h4 : 0 ≤ m) (h5 : m ≤ 1000000) : Fn Try.prog 23 [confV a b c d, .int .i64 m] [] [] (IsV (.int .i64 (10 + 2 * m + m * (3 + 6 * b)))) := by
  have hp := prod_bd m (3 + 6 * b) (by omega) (by omega) (by omega) (by omega)
  refine Fn.enter Try.func23 (by kernel_rfl) rfl (n := 15) rfl rfl (fun w => ?_)
  refine At.seq ?_
  refine At.plain [(false, 0), (false, 1)] rfl ?_
  refine At.box rfl rfl rfl (.t rfl) (fun b1 hb1 => ⟨.all, ?_⟩)
  refine At.e rfl rfl rfl rfl .all (R.assign .c) ?_
  refine At.nil ?_
  refine At.tN ?_
  refine At.seq ?_
  refine At.plain [(false, 0), (false, 1), (false, 2), (false, 3), (false, 4), (false, 5), (false, 6), (false, 7), (false, 8), (false, 9), (false, 10)] rfl ?_
  refine At.e rfl rfl rfl rfl .all (R.move (.t rfl)) ?_
  first | refine At.e rfl rfl rfl rfl .all (R.mulI .c (.t rfl) (fun hg => by first | omega | (simp at hg; omega))) ?_ | refine At.e rfl rfl rfl rfl .all (R.mul .c (.t rfl)) ?_
  first | refine At.e rfl rfl rfl rfl .all (R.addI .c (.t rfl) (fun hg => by first | omega | (simp at hg; omega))) ?_ | refine At.e rfl rfl rfl rfl .all (R.add .c (.t rfl)) ?_
  refine At.e rfl rfl rfl rfl .all (R.move (.t rfl)) ?_
  refine At.e rfl rfl rfl rfl .all (R.fieldAddr fo_23_1 (.t rfl)) ?_
  refine At.e rfl rfl rfl rfl .all (R.load Try.underlying3 rfl (.t rfl) (by first | exact cin_new (.head _) rfl | exact cin_new (.tail _ (.head _)) rfl | exact cin_new (.tail _ (.tail _ (.head _))) rfl | exact cin_new (.tail _ (.tail _ (.tail _ (.head _)))) rfl | exact cin_new (.tail _ (.tail _ (.tail _ (.tail _ (.head _))))) rfl | exact cin_new (.tail _ (.tail _ (.tail _ (.tail _ (.tail _ (.head _)))))) rfl | exact cin_new (.tail _ (.tail _ (.tail _ (.tail _ (.tail _ (.tail _ (.head _))))))) rfl | exact cin_new (.tail _ (.tail _ (.tail _ (.tail _ (.tail _ (.tail _ (.tail _ (.head _)))))))) rfl)) ?_
  first | refine At.e rfl rfl rfl rfl .all (R.mulI .c (.t rfl) (fun hg => by first | omega | (simp at hg; omega))) ?_ | refine At.e rfl rfl rfl rfl .all (R.mul .c (.t rfl)) ?_
  first | refine At.e rfl rfl rfl rfl .all (R.addI .c (.t rfl) (fun hg => by first | omega | (simp at hg; omega))) ?_ | refine At.e rfl rfl rfl rfl .all (R.add .c (.t rfl)) ?_
  first | refine At.e rfl rfl rfl rfl .all (R.mulI (.t rfl) (.t rfl) (fun hg => by first | omega | (simp at hg; omega))) ?_ | refine At.e rfl rfl rfl rfl .all (R.mul (.t rfl) (.t rfl)) ?_
  first | refine At.e rfl rfl rfl rfl .all (R.addI (.t rfl) (.t rfl) (fun hg => by first | omega | (simp at hg; omega))) ?_ | refine At.e rfl rfl rfl rfl .all (R.add (.t rfl) (.t rfl)) ?_
  refine At.e rfl rfl rfl rfl .all (R.assign (.t rfl)) ?_
  refine At.nil ?_
  refine At.tN ?_
  refine At.ret ?_
  exact At.final rfl (.t rfl) (List.nil_sublist _) (⟨congrArg (Value.int .i64) (by omega), rfl, rfl⟩)

theorem c_Solo {a b c d m : Int} (h0 : 0 ≤ a) (h1 : a ≤ 1000000) (h2 : 0 ≤ b) (h3 : b ≤ 1000000) (h4 : 0 ≤ m) (h5 : m ≤ 1000000) : Fn Try.prog 24 [confV a b c d, .int .i64 m] [] [] (IsV (.int .i64 (128 * (m + 4) * (m + b + (a + 8))))) := by
  have hp := prod_bd2 (128 * (m + 4)) (m + b + (a + 8)) (by omega) (by omega) (by omega) (by omega)
  refine Fn.enter Try.func24 (by kernel_rfl) rfl (n := 17) rfl rfl (fun w => ?_)
  refine At.seq ?_
  refine At.plain [(false, 0), (false, 1)] rfl ?_
  refine At.box rfl rfl rfl (.t rfl) (fun b1 hb1 => ⟨.all, ?_⟩)
  refine At.e rfl rfl rfl rfl .all (R.assign .c) ?_
  refine At.nil ?_
  refine At.tN ?_
  refine At.seq ?_
  refine At.plain [(false, 0), (false, 1), (false, 2), (false, 3), (false, 4), (false, 5), (false, 6), (false, 7), (false, 8), (false, 9), (false, 10), (false, 11), (false, 12)] rfl ?_
  refine At.e rfl rfl rfl rfl .all (R.move (.t rfl)) ?_
  first | refine At.e rfl rfl rfl rfl .all (R.addI (.t rfl) .c (fun hg => by first | omega | (simp at hg; omega))) ?_ | refine At.e rfl rfl rfl rfl .all (R.add (.t rfl) .c) ?_
  first | refine At.e rfl rfl rfl rfl .all (R.mulI .c (.t rfl) (fun hg => by first | omega | (simp at hg; omega))) ?_ | refine At.e rfl rfl rfl rfl .all (R.mul .c (.t rfl)) ?_
  refine At.e rfl rfl rfl rfl .all (R.move (.t rfl)) ?_
  refine At.e rfl rfl rfl rfl .all (R.fieldAddr fo_23_1 (.t rfl)) ?_
  refine At.e rfl rfl rfl rfl .all (R.load Try.underlying3 rfl (.t rfl) (by first | exact cin_new (.head _) rfl | exact cin_new (.tail _ (.head _)) rfl | exact cin_new (.tail _ (.tail _ (.head _))) rfl | exact cin_new (.tail _ (.tail _ (.tail _ (.head _)))) rfl | exact cin_new (.tail _ (.tail _ (.tail _ (.tail _ (.head _))))) rfl | exact cin_new (.tail _ (.tail _ (.tail _ (.tail _ (.tail _ (.head _)))))) rfl | exact cin_new (.tail _ (.tail _ (.tail _ (.tail _ (.tail _ (.tail _ (.head _))))))) rfl | exact cin_new (.tail _ (.tail _ (.tail _ (.tail _ (.tail _ (.tail _ (.tail _ (.head _)))))))) rfl)) ?_
  refine At.e rfl rfl rfl rfl .all (R.fieldAddr fo_23_0 (.t rfl)) ?_
  refine At.e rfl rfl rfl rfl .all (R.load Try.underlying3 rfl (.t rfl) (by first | exact cin_new (.head _) rfl | exact cin_new (.tail _ (.head _)) rfl | exact cin_new (.tail _ (.tail _ (.head _))) rfl | exact cin_new (.tail _ (.tail _ (.tail _ (.head _)))) rfl | exact cin_new (.tail _ (.tail _ (.tail _ (.tail _ (.head _))))) rfl | exact cin_new (.tail _ (.tail _ (.tail _ (.tail _ (.tail _ (.head _)))))) rfl | exact cin_new (.tail _ (.tail _ (.tail _ (.tail _ (.tail _ (.tail _ (.head _))))))) rfl | exact cin_new (.tail _ (.tail _ (.tail _ (.tail _ (.tail _ (.tail _ (.tail _ (.head _)))))))) rfl)) ?_
  first | refine At.e rfl rfl rfl rfl .all (R.addI (.t rfl) .c (fun hg => by first | omega | (simp at hg; omega))) ?_ | refine At.e rfl rfl rfl rfl .all (R.add (.t rfl) .c) ?_
  refine At.e rfl rfl rfl rfl .all (R.build bt_63 (.cons (.t rfl) (.cons (.t rfl) (.cons (.t rfl) .nil))) (.cons rfl (.cons rfl (.cons rfl .nil))) rfl) ?_
  refine At.callV rfl rfl rfl (.cons (.t rfl) .nil) (fun hg => c_sum (by omega) (by omega) (by omega) (by omega) (by omega) (by omega)) (by simp) .all ?_
  first | refine At.e rfl rfl rfl rfl .all (R.mulI (.t rfl) (.t rfl) (fun hg => by first | omega | (simp at hg; omega))) ?_ | refine At.e rfl rfl rfl rfl .all (R.mul (.t rfl) (.t rfl)) ?_
  refine At.e rfl rfl rfl rfl .all (R.assign (.t rfl)) ?_
  refine At.nil ?_
  refine At.tN ?_
  refine At.ret ?_
  exact At.final rfl (.t rfl) (List.nil_sublist _) (⟨congrArg (Value.int .i64) (by omega), rfl, rfl⟩)

theorem c_rSolo {a b c d m : Int} (h0 : 0 ≤ a) (h1 : a ≤ 1000000) (h2 : 0 ≤ b) (h3 : b ≤ 1000000) (h4 : 0 ≤ m) (h5 : m ≤ 1000000) : Fn Try.prog 25 [confV a b c d, .int .i64 m] [] [] (IsV (.int .i64 (128 * (m + 4) * (m + b + (a + 8))))) := by
  have hp := prod_bd2 (128 * (m + 4)) (m + b + a + 8) (by omega) (by omega) (by omega) (by omega)
  refine Fn.enter Try.func25 (by kernel_rfl) rfl (n := 17) rfl rfl (fun w => ?_)
  refine At.seq ?_
  refine At.plain [(false, 0), (false, 1)] rfl ?_
  refine At.box rfl rfl rfl (.t rfl) (fun b1 hb1 => ⟨.all, ?_⟩)
  refine At.e rfl rfl rfl rfl .all (R.assign .c) ?_
  refine At.nil ?_
  refine At.tN ?_
  refine At.seq ?_
  refine At.plain [(false, 0), (false, 1), (false, 2), (false, 3), (false, 4), (false, 5), (false, 6), (false, 7), (false, 8), (false, 9), (false, 10), (false, 11), (false, 12)] rfl ?_
  refine At.e rfl rfl rfl rfl .all (R.move (.t rfl)) ?_
  first | refine At.e rfl rfl rfl rfl .all (R.addI (.t rfl) .c (fun hg => by first | omega | (simp at hg; omega))) ?_ | refine At.e rfl rfl rfl rfl .all (R.add (.t rfl) .c) ?_
  first | refine At.e rfl rfl rfl rfl .all (R.mulI .c (.t rfl) (fun hg => by first | omega | (simp at hg; omega))) ?_ | refine At.e rfl rfl rfl rfl .all (R.mul .c (.t rfl)) ?_
  refine At.e rfl rfl rfl rfl .all (R.move (.t rfl)) ?_
  refine At.e rfl rfl rfl rfl .all (R.fieldAddr fo_23_1 (.t rfl)) ?_
  refine At.e rfl rfl rfl rfl .all (R.load Try.underlying3 rfl (.t rfl) (by first | exact cin_new (.head _) rfl | exact cin_new (.tail _ (.head _)) rfl | exact cin_new (.tail _ (.tail _ (.head _))) rfl | exact cin_new (.tail _ (.tail _ (.tail _ (.head _)))) rfl | exact cin_new (.tail _ (.tail _ (.tail _ (.tail _ (.head _))))) rfl | exact cin_new (.tail _ (.tail _ (.tail _ (.tail _ (.tail _ (.head _)))))) rfl | exact cin_new (.tail _ (.tail _ (.tail _ (.tail _ (.tail _ (.tail _ (.head _))))))) rfl | exact cin_new (.tail _ (.tail _ (.tail _ (.tail _ (.tail _ (.tail _ (.tail _ (.head _)))))))) rfl)) ?_
  first | refine At.e rfl rfl rfl rfl .all (R.addI (.t rfl) (.t rfl) (fun hg => by first | omega | (simp at hg; omega))) ?_ | refine At.e rfl rfl rfl rfl .all (R.add (.t rfl) (.t rfl)) ?_
  refine At.e rfl rfl rfl rfl .all (R.fieldAddr fo_23_0 (.t rfl)) ?_
  refine At.e rfl rfl rfl rfl .all (R.load Try.underlying3 rfl (.t rfl) (by first | exact cin_new (.head _) rfl | exact cin_new (.tail _ (.head _)) rfl | exact cin_new (.tail _ (.tail _ (.head _))) rfl | exact cin_new (.tail _ (.tail _ (.tail _ (.head _)))) rfl | exact cin_new (.tail _ (.tail _ (.tail _ (.tail _ (.head _))))) rfl | exact cin_new (.tail _ (.tail _ (.tail _ (.tail _ (.tail _ (.head _)))))) rfl | exact cin_new (.tail _ (.tail _ (.tail _ (.tail _ (.tail _ (.tail _ (.head _))))))) rfl | exact cin_new (.tail _ (.tail _ (.tail _ (.tail _ (.tail _ (.tail _ (.tail _ (.head _)))))))) rfl)) ?_
  first | refine At.e rfl rfl rfl rfl .all (R.addI (.t rfl) (.t rfl) (fun hg => by first | omega | (simp at hg; omega))) ?_ | refine At.e rfl rfl rfl rfl .all (R.add (.t rfl) (.t rfl)) ?_
  first | refine At.e rfl rfl rfl rfl .all (R.addI (.t rfl) .c (fun hg => by first | omega | (simp at hg; omega))) ?_ | refine At.e rfl rfl rfl rfl .all (R.add (.t rfl) .c) ?_
  first | refine At.e rfl rfl rfl rfl .all (R.mulI (.t rfl) (.t rfl) (fun hg => by first | omega | (simp at hg; omega))) ?_ | refine At.e rfl rfl rfl rfl .all (R.mul (.t rfl) (.t rfl)) ?_
  refine At.e rfl rfl rfl rfl .all (R.assign (.t rfl)) ?_
  refine At.nil ?_
  refine At.tN ?_
  refine At.ret ?_
  exact At.final rfl (.t rfl) (List.nil_sublist _) (⟨congrArg (Value.int .i64) (by rw [show m + b + a + 8 = m + b + (a + 8) from by omega]), rfl, rfl⟩)

theorem c_Conf {a b c : Int} : Fn Try.prog 40 [.int .i64 a, .int .i64 b, .int .i64 c] [] [] (IsV (confV a b c 1000)) := by
  refine Fn.enter Try.func40 (by kernel_rfl) rfl (n := 11) rfl rfl (fun w => ?_)
  refine At.seq ?_
  refine At.plain [(false, 0)] rfl ?_
  refine At.alloc rfl rfl rfl ze_23 (fun b1 hb1 => ⟨.all, ?_⟩)
  refine At.nil ?_
  refine At.tN ?_
  refine At.seq ?_
  refine At.plain [(false, 0), (false, 1), (false, 2), (false, 3), (false, 4)] rfl ?_
  refine At.e rfl rfl rfl rfl .all (R.move (.t rfl)) ?_
  refine At.e rfl rfl rfl rfl .all (R.move (.t rfl)) ?_
  refine At.e rfl rfl rfl rfl .all (R.move (.t rfl)) ?_
  refine At.e rfl rfl rfl rfl .all (R.build bt_23 (.cons (.t rfl) (.cons (.t rfl) (.cons (.t rfl) (.cons .c .nil)))) (.cons rfl (.cons rfl (.cons rfl (.cons rfl .nil)))) rfl) ?_
  first | refine At.stN rfl rfl sz_23 (.t rfl) (.t rfl) rfl rfl rfl (.n .here) ⟨.all, ?_⟩ | refine At.stN rfl rfl sz_23 (.t rfl) (.t rfl) rfl rfl rfl (.n (.there .here)) ⟨.all, ?_⟩ | refine At.stN rfl rfl sz_23 (.t rfl) (.t rfl) rfl rfl rfl (.n (.there (.there .here))) ⟨.all, ?_⟩ | refine At.stN rfl rfl sz_23 (.t rfl) (.t rfl) rfl rfl rfl (.n (.there (.there (.there .here)))) ⟨.all, ?_⟩ | refine At.stN rfl rfl sz_23 (.t rfl) (.t rfl) rfl rfl rfl (.n (.there (.there (.there (.there .here))))) ⟨.all, ?_⟩ | refine At.stN rfl rfl sz_23 (.t rfl) (.t rfl) rfl rfl rfl (.n (.there (.there (.there (.there (.there .here)))))) ⟨.all, ?_⟩ | refine At.stN rfl rfl sz_23 (.t rfl) (.t rfl) rfl rfl rfl (.n (.there (.there (.there (.there (.there (.there .here))))))) ⟨.all, ?_⟩ | refine At.stN rfl rfl sz_23 (.t rfl) (.t rfl) rfl rfl rfl (.n (.there (.there (.there (.there (.there (.there (.there .here)))))))) ⟨.all, ?_⟩ | refine At.stN rfl rfl sz_23 (.t rfl) (.t rfl) rfl rfl rfl (.h .here) ⟨.all, ?_⟩ | refine At.stN rfl rfl sz_23 (.t rfl) (.t rfl) rfl rfl rfl (.h (.there .here)) ⟨.all, ?_⟩ | refine At.stN rfl rfl sz_23 (.t rfl) (.t rfl) rfl rfl rfl (.h (.there (.there .here))) ⟨.all, ?_⟩ | refine At.stN rfl rfl sz_23 (.t rfl) (.t rfl) rfl rfl rfl (.h (.there (.there (.there .here)))) ⟨.all, ?_⟩
  refine At.nil ?_
  refine At.tN ?_
  refine At.ret ?_
  exact At.final rfl (.a (vs := [_, _, _, _]) Try.underlying23 rfl sz_23 rfl (by first | exact csin_new (.head _) ⟨rfl, rfl, rfl, rfl, trivial⟩ | exact csin_new (.tail _ (.head _)) ⟨rfl, rfl, rfl, rfl, trivial⟩ | exact csin_new (.tail _ (.tail _ (.head _))) ⟨rfl, rfl, rfl, rfl, trivial⟩ | exact csin_new (.tail _ (.tail _ (.tail _ (.head _)))) ⟨rfl, rfl, rfl, rfl, trivial⟩ | exact csin_new (.tail _ (.tail _ (.tail _ (.tail _ (.head _))))) ⟨rfl, rfl, rfl, rfl, trivial⟩ | exact csin_new (.tail _ (.tail _ (.tail _ (.tail _ (.tail _ (.head _)))))) ⟨rfl, rfl, rfl, rfl, trivial⟩ | exact csin_new (.tail _ (.tail _ (.tail _ (.tail _ (.tail _ (.tail _ (.head _))))))) ⟨rfl, rfl, rfl, rfl, trivial⟩ | exact csin_new (.tail _ (.tail _ (.tail _ (.tail _ (.tail _ (.tail _ (.tail _ (.head _)))))))) ⟨rfl, rfl, rfl, rfl, trivial⟩)) (List.nil_sublist _) (⟨rfl, rfl, rfl⟩)

theorem c_IsConf {a b c d : Int} : Fn Try.prog 17 [confV a b c d] [] [] (IsV (.int .i64 (isConfF a b c d))) := by
  refine Fn.enter Try.func17 (by kernel_rfl) rfl (n := 49) rfl rfl (fun w => ?_)
  refine At.seq ?_
  refine At.plain [(false, 0), (false, 1)] rfl ?_
  refine At.box rfl rfl rfl (.t rfl) (fun b1 hb1 => ⟨.all, ?_⟩)
  refine At.e rfl rfl rfl rfl .all (R.assign .c) ?_
  refine At.nil ?_
  refine At.tN ?_
  refine At.seq ?_
  refine At.seq ?_
  refine At.plain [(false, 0), (false, 1), (false, 2), (false, 3), (false, 4), (false, 5), (false, 6), (false, 7), (false, 8), (false, 9), (false, 10), (false, 11), (false, 12), (false, 13), (false, 14), (false, 15), (false, 16), (false, 17), (false, 18), (false, 19), (false, 20), (false, 21), (false, 22), (false, 23), (false, 24), (false, 25), (false, 26), (false, 27), (false, 28), (false, 29), (false, 30), (false, 31), (false, 32), (false, 33), (false, 34), (false, 35), (false, 36), (false, 37), (false, 38), (false, 39), (false, 40)] rfl ?_
  refine At.e rfl rfl rfl rfl .all (R.fieldAddr fo_23_0 (.t rfl)) ?_
  refine At.e rfl rfl rfl rfl .all (R.load Try.underlying3 rfl (.t rfl) (by first | exact cin_new (.head _) rfl | exact cin_new (.tail _ (.head _)) rfl | exact cin_new (.tail _ (.tail _ (.head _))) rfl | exact cin_new (.tail _ (.tail _ (.tail _ (.head _)))) rfl | exact cin_new (.tail _ (.tail _ (.tail _ (.tail _ (.head _))))) rfl | exact cin_new (.tail _ (.tail _ (.tail _ (.tail _ (.tail _ (.head _)))))) rfl | exact cin_new (.tail _ (.tail _ (.tail _ (.tail _ (.tail _ (.tail _ (.head _))))))) rfl | exact cin_new (.tail _ (.tail _ (.tail _ (.tail _ (.tail _ (.tail _ (.tail _ (.head _)))))))) rfl)) ?_
  first | refine At.e rfl rfl rfl rfl .all (R.as (R.lss (.t rfl) .c) (fun _ => congrArg Value.bool (decide_eq_true (by omega)))) ?_ | refine At.e rfl rfl rfl rfl .all (R.as (R.lss (.t rfl) .c) (fun _ => congrArg Value.bool (decide_eq_false (by omega)))) ?_ | refine At.e rfl rfl rfl rfl .all (R.lss (.t rfl) .c) ?_
  refine At.e rfl rfl rfl rfl .all (R.move (.t rfl)) ?_
  first | refine At.eF rfl rfl rfl rfl .all ?_ | refine At.e rfl rfl rfl rfl .all (R.fieldAddr fo_23_0 (by first | exact .t rfl | exact .s rfl | exact .i rfl (by simp_all))) ?_
  first | refine At.eF rfl rfl rfl rfl .all ?_ | refine At.e rfl rfl rfl rfl .all (R.load Try.underlying3 rfl (by first | exact .t rfl | exact .s rfl | exact .i rfl (by simp_all)) (by first | exact cin_new (.head _) rfl | exact cin_new (.tail _ (.head _)) rfl | exact cin_new (.tail _ (.tail _ (.head _))) rfl | exact cin_new (.tail _ (.tail _ (.tail _ (.head _)))) rfl | exact cin_new (.tail _ (.tail _ (.tail _ (.tail _ (.head _))))) rfl | exact cin_new (.tail _ (.tail _ (.tail _ (.tail _ (.tail _ (.head _)))))) rfl | exact cin_new (.tail _ (.tail _ (.tail _ (.tail _ (.tail _ (.tail _ (.head _))))))) rfl | exact cin_new (.tail _ (.tail _ (.tail _ (.tail _ (.tail _ (.tail _ (.tail _ (.head _)))))))) rfl)) ?_
  first | refine At.eF rfl rfl rfl rfl .all ?_ | refine At.e rfl rfl rfl rfl .all (R.gtr (by first | exact .t rfl | exact .s rfl | exact .i rfl (by simp_all)) .c) ?_
  first | refine At.e rfl rfl rfl rfl .all (R.pickT (.t rfl) .c) ?_ | refine At.e rfl rfl rfl rfl .all (R.pickF (.t rfl) (.t rfl)) ?_ | refine At.e rfl rfl rfl rfl .all (R.pickOr (.t rfl) rfl (by simp_all)) ?_
  refine At.e rfl rfl rfl rfl .all (R.move (.t rfl)) ?_
  first | refine At.eF rfl rfl rfl rfl .all ?_ | refine At.e rfl rfl rfl rfl .all (R.fieldAddr fo_23_1 (by first | exact .t rfl | exact .s rfl | exact .i rfl (by simp_all))) ?_
  first | refine At.eF rfl rfl rfl rfl .all ?_ | refine At.e rfl rfl rfl rfl .all (R.load Try.underlying3 rfl (by first | exact .t rfl | exact .s rfl | exact .i rfl (by simp_all)) (by first | exact cin_new (.head _) rfl | exact cin_new (.tail _ (.head _)) rfl | exact cin_new (.tail _ (.tail _ (.head _))) rfl | exact cin_new (.tail _ (.tail _ (.tail _ (.head _)))) rfl | exact cin_new (.tail _ (.tail _ (.tail _ (.tail _ (.head _))))) rfl | exact cin_new (.tail _ (.tail _ (.tail _ (.tail _ (.tail _ (.head _)))))) rfl | exact cin_new (.tail _ (.tail _ (.tail _ (.tail _ (.tail _ (.tail _ (.head _))))))) rfl | exact cin_new (.tail _ (.tail _ (.tail _ (.tail _ (.tail _ (.tail _ (.tail _ (.head _)))))))) rfl)) ?_
  first | refine At.eF rfl rfl rfl rfl .all ?_ | refine At.e rfl rfl rfl rfl .all (R.fieldAddr fo_23_0 (by first | exact .t rfl | exact .s rfl | exact .i rfl (by simp_all))) ?_
  first | refine At.eF rfl rfl rfl rfl .all ?_ | refine At.e rfl rfl rfl rfl .all (R.load Try.underlying3 rfl (by first | exact .t rfl | exact .s rfl | exact .i rfl (by simp_all)) (by first | exact cin_new (.head _) rfl | exact cin_new (.tail _ (.head _)) rfl | exact cin_new (.tail _ (.tail _ (.head _))) rfl | exact cin_new (.tail _ (.tail _ (.tail _ (.head _)))) rfl | exact cin_new (.tail _ (.tail _ (.tail _ (.tail _ (.head _))))) rfl | exact cin_new (.tail _ (.tail _ (.tail _ (.tail _ (.tail _ (.head _)))))) rfl | exact cin_new (.tail _ (.tail _ (.tail _ (.tail _ (.tail _ (.tail _ (.head _))))))) rfl | exact cin_new (.tail _ (.tail _ (.tail _ (.tail _ (.tail _ (.tail _ (.tail _ (.head _)))))))) rfl)) ?_
  first | refine At.eF rfl rfl rfl rfl .all ?_ | refine At.e rfl rfl rfl rfl .all (R.addI (by first | exact .t rfl | exact .s rfl | exact .i rfl (by simp_all)) .c (fun hg => by first | omega | (simp at hg; omega))) ?_ | refine At.e rfl rfl rfl rfl .all (R.add (by first | exact .t rfl | exact .s rfl | exact .i rfl (by simp_all)) .c) ?_
  first | refine At.eF rfl rfl rfl rfl .all ?_ | refine At.e rfl rfl rfl rfl .all (R.lss (by first | exact .t rfl | exact .s rfl | exact .i rfl (by simp_all)) (by first | exact .t rfl | exact .s rfl | exact .i rfl (by simp_all))) ?_
  first | refine At.e rfl rfl rfl rfl .all (R.pickT (.t rfl) .c) ?_ | refine At.e rfl rfl rfl rfl .all (R.pickF (.t rfl) (.t rfl)) ?_ | refine At.e rfl rfl rfl rfl .all (R.pickOr (.t rfl) rfl (by simp_all)) ?_
  refine At.e rfl rfl rfl rfl .all (R.move (.t rfl)) ?_
  first | refine At.eF rfl rfl rfl rfl .all ?_ | refine At.e rfl rfl rfl rfl .all (R.fieldAddr fo_23_1 (by first | exact .t rfl | exact .s rfl | exact .i rfl (by simp_all))) ?_
  first | refine At.eF rfl rfl rfl rfl .all ?_ | refine At.e rfl rfl rfl rfl .all (R.load Try.underlying3 rfl (by first | exact .t rfl | exact .s rfl | exact .i rfl (by simp_all)) (by first | exact cin_new (.head _) rfl | exact cin_new (.tail _ (.head _)) rfl | exact cin_new (.tail _ (.tail _ (.head _))) rfl | exact cin_new (.tail _ (.tail _ (.tail _ (.head _)))) rfl | exact cin_new (.tail _ (.tail _ (.tail _ (.tail _ (.head _))))) rfl | exact cin_new (.tail _ (.tail _ (.tail _ (.tail _ (.tail _ (.head _)))))) rfl | exact cin_new (.tail _ (.tail _ (.tail _ (.tail _ (.tail _ (.tail _ (.head _))))))) rfl | exact cin_new (.tail _ (.tail _ (.tail _ (.tail _ (.tail _ (.tail _ (.tail _ (.head _)))))))) rfl)) ?_
  first | refine At.eF rfl rfl rfl rfl .all ?_ | refine At.e rfl rfl rfl rfl .all (R.gtr (by first | exact .t rfl | exact .s rfl | exact .i rfl (by simp_all)) .c) ?_
  first | refine At.e rfl rfl rfl rfl .all (R.pickT (.t rfl) .c) ?_ | refine At.e rfl rfl rfl rfl .all (R.pickF (.t rfl) (.t rfl)) ?_ | refine At.e rfl rfl rfl rfl .all (R.pickOr (.t rfl) rfl (by simp_all)) ?_
  refine At.e rfl rfl rfl rfl .all (R.move (.t rfl)) ?_
  first | refine At.eF rfl rfl rfl rfl .all ?_ | refine At.e rfl rfl rfl rfl .all (R.fieldAddr fo_23_3 (by first | exact .t rfl | exact .s rfl | exact .i rfl (by simp_all))) ?_
  first | refine At.eF rfl rfl rfl rfl .all ?_ | refine At.e rfl rfl rfl rfl .all (R.load Try.underlying3 rfl (by first | exact .t rfl | exact .s rfl | exact .i rfl (by simp_all)) (by first | exact cin_new (.head _) rfl | exact cin_new (.tail _ (.head _)) rfl | exact cin_new (.tail _ (.tail _ (.head _))) rfl | exact cin_new (.tail _ (.tail _ (.tail _ (.head _)))) rfl | exact cin_new (.tail _ (.tail _ (.tail _ (.tail _ (.head _))))) rfl | exact cin_new (.tail _ (.tail _ (.tail _ (.tail _ (.tail _ (.head _)))))) rfl | exact cin_new (.tail _ (.tail _ (.tail _ (.tail _ (.tail _ (.tail _ (.head _))))))) rfl | exact cin_new (.tail _ (.tail _ (.tail _ (.tail _ (.tail _ (.tail _ (.tail _ (.head _)))))))) rfl)) ?_
  first | refine At.eF rfl rfl rfl rfl .all ?_ | refine At.e rfl rfl rfl rfl .all (R.lss (by first | exact .t rfl | exact .s rfl | exact .i rfl (by simp_all)) .c) ?_
  first | refine At.e rfl rfl rfl rfl .all (R.pickT (.t rfl) .c) ?_ | refine At.e rfl rfl rfl rfl .all (R.pickF (.t rfl) (.t rfl)) ?_ | refine At.e rfl rfl rfl rfl .all (R.pickOr (.t rfl) rfl (by simp_all)) ?_
  refine At.e rfl rfl rfl rfl .all (R.move (.t rfl)) ?_
  first | refine At.eF rfl rfl rfl rfl .all ?_ | refine At.e rfl rfl rfl rfl .all (R.fieldAddr fo_23_3 (by first | exact .t rfl | exact .s rfl | exact .i rfl (by simp_all))) ?_
  first | refine At.eF rfl rfl rfl rfl .all ?_ | refine At.e rfl rfl rfl rfl .all (R.load Try.underlying3 rfl (by first | exact .t rfl | exact .s rfl | exact .i rfl (by simp_all)) (by first | exact cin_new (.head _) rfl | exact cin_new (.tail _ (.head _)) rfl | exact cin_new (.tail _ (.tail _ (.head _))) rfl | exact cin_new (.tail _ (.tail _ (.tail _ (.head _)))) rfl | exact cin_new (.tail _ (.tail _ (.tail _ (.tail _ (.head _))))) rfl | exact cin_new (.tail _ (.tail _ (.tail _ (.tail _ (.tail _ (.head _)))))) rfl | exact cin_new (.tail _ (.tail _ (.tail _ (.tail _ (.tail _ (.tail _ (.head _))))))) rfl | exact cin_new (.tail _ (.tail _ (.tail _ (.tail _ (.tail _ (.tail _ (.tail _ (.head _)))))))) rfl)) ?_
  first | refine At.eF rfl rfl rfl rfl .all ?_ | refine At.e rfl rfl rfl rfl .all (R.gtr (by first | exact .t rfl | exact .s rfl | exact .i rfl (by simp_all)) .c) ?_
  first | refine At.e rfl rfl rfl rfl .all (R.pickT (.t rfl) .c) ?_ | refine At.e rfl rfl rfl rfl .all (R.pickF (.t rfl) (.t rfl)) ?_ | refine At.e rfl rfl rfl rfl .all (R.pickOr (.t rfl) rfl (by simp_all)) ?_
  refine At.e rfl rfl rfl rfl .all (R.move (.t rfl)) ?_
  first | refine At.eF rfl rfl rfl rfl .all ?_ | refine At.e rfl rfl rfl rfl .all (R.fieldAddr fo_23_2 (by first | exact .t rfl | exact .s rfl | exact .i rfl (by simp_all))) ?_
  first | refine At.eF rfl rfl rfl rfl .all ?_ | refine At.e rfl rfl rfl rfl .all (R.load Try.underlying3 rfl (by first | exact .t rfl | exact .s rfl | exact .i rfl (by simp_all)) (by first | exact cin_new (.head _) rfl | exact cin_new (.tail _ (.head _)) rfl | exact cin_new (.tail _ (.tail _ (.head _))) rfl | exact cin_new (.tail _ (.tail _ (.tail _ (.head _)))) rfl | exact cin_new (.tail _ (.tail _ (.tail _ (.tail _ (.head _))))) rfl | exact cin_new (.tail _ (.tail _ (.tail _ (.tail _ (.tail _ (.head _)))))) rfl | exact cin_new (.tail _ (.tail _ (.tail _ (.tail _ (.tail _ (.tail _ (.head _))))))) rfl | exact cin_new (.tail _ (.tail _ (.tail _ (.tail _ (.tail _ (.tail _ (.tail _ (.head _)))))))) rfl)) ?_
  first | refine At.eF rfl rfl rfl rfl .all ?_ | refine At.e rfl rfl rfl rfl .all (R.lss (by first | exact .t rfl | exact .s rfl | exact .i rfl (by simp_all)) .c) ?_
  first | refine At.e rfl rfl rfl rfl .all (R.pickT (.t rfl) .c) ?_ | refine At.e rfl rfl rfl rfl .all (R.pickF (.t rfl) (.t rfl)) ?_ | refine At.e rfl rfl rfl rfl .all (R.pickOr (.t rfl) rfl (by simp_all)) ?_
  refine At.e rfl rfl rfl rfl .all (R.move (.t rfl)) ?_
  first | refine At.eF rfl rfl rfl rfl .all ?_ | refine At.e rfl rfl rfl rfl .all (R.fieldAddr fo_23_2 (by first | exact .t rfl | exact .s rfl | exact .i rfl (by simp_all))) ?_
  first | refine At.eF rfl rfl rfl rfl .all ?_ | refine At.e rfl rfl rfl rfl .all (R.load Try.underlying3 rfl (by first | exact .t rfl | exact .s rfl | exact .i rfl (by simp_all)) (by first | exact cin_new (.head _) rfl | exact cin_new (.tail _ (.head _)) rfl | exact cin_new (.tail _ (.tail _ (.head _))) rfl | exact cin_new (.tail _ (.tail _ (.tail _ (.head _)))) rfl | exact cin_new (.tail _ (.tail _ (.tail _ (.tail _ (.head _))))) rfl | exact cin_new (.tail _ (.tail _ (.tail _ (.tail _ (.tail _ (.head _)))))) rfl | exact cin_new (.tail _ (.tail _ (.tail _ (.tail _ (.tail _ (.tail _ (.head _))))))) rfl | exact cin_new (.tail _ (.tail _ (.tail _ (.tail _ (.tail _ (.tail _ (.tail _ (.head _)))))))) rfl)) ?_
  first | refine At.eF rfl rfl rfl rfl .all ?_ | refine At.e rfl rfl rfl rfl .all (R.gtr (by first | exact .t rfl | exact .s rfl | exact .i rfl (by simp_all)) .c) ?_
  first | refine At.e rfl rfl rfl rfl .all (R.pickT (.t rfl) .c) ?_ | refine At.e rfl rfl rfl rfl .all (R.pickF (.t rfl) (.t rfl)) ?_ | refine At.e rfl rfl rfl rfl .all (R.pickOr (.t rfl) rfl (by simp_all)) ?_
  refine At.nil ?_
  refine At.tN ?_
  first | refine At.condD (.t rfl) (fun c1 => ?_) (fun c1 => ?_) | refine At.condN (.t rfl) (fun c1 => ?_) (fun c1 => ?_) | refine At.cond (.t rfl) (fun c1 => ?_) (fun c1 => ?_)
  · simp at c1
    refine At.seq ?_
    refine At.plain [(false, 0)] rfl ?_
    refine At.e rfl rfl rfl rfl .all (R.assign .c) ?_
    refine At.nil ?_
    refine At.tN ?_
    refine At.ret ?_
    refine At.tR ?_
    exact At.final rfl (.t rfl) (List.nil_sublist _) (⟨congrArg (Value.int .i64) (by unfold isConfF; first | (rw [if_pos (by omega)]) | (rw [if_neg (by omega), if_pos (by omega)]) | (rw [if_neg (by omega), if_neg (by omega)])), rfl, rfl⟩)
  · simp at c1
    refine At.skip ?_
    refine At.tN ?_
    refine At.seq ?_
    refine At.seq ?_
    refine At.drawK [(true, 0), (true, 2), (true, 3), (false, 1), (true, 4)] (by kernel_rfl) (by kernel_rfl) ?_
    refine At.s rfl rfl rfl rfl (Cl.kept fun _ h => h) (R.loadAgg (vs := [_, _, _, _]) Try.underlying23 rfl sz_23 (.t rfl) (by first | exact csin_kept (.head _) ⟨rfl, rfl, rfl, rfl, trivial⟩ | exact csin_kept (.tail _ (.head _)) ⟨rfl, rfl, rfl, rfl, trivial⟩ | exact csin_kept (.tail _ (.tail _ (.head _))) ⟨rfl, rfl, rfl, rfl, trivial⟩ | exact csin_kept (.tail _ (.tail _ (.tail _ (.head _)))) ⟨rfl, rfl, rfl, rfl, trivial⟩ | exact csin_kept (.tail _ (.tail _ (.tail _ (.tail _ (.head _))))) ⟨rfl, rfl, rfl, rfl, trivial⟩ | exact csin_kept (.tail _ (.tail _ (.tail _ (.tail _ (.tail _ (.head _)))))) ⟨rfl, rfl, rfl, rfl, trivial⟩ | exact csin_kept (.tail _ (.tail _ (.tail _ (.tail _ (.tail _ (.tail _ (.head _))))))) ⟨rfl, rfl, rfl, rfl, trivial⟩ | exact csin_kept (.tail _ (.tail _ (.tail _ (.tail _ (.tail _ (.tail _ (.tail _ (.head _)))))))) ⟨rfl, rfl, rfl, rfl, trivial⟩)) ?_
    refine At.s rfl rfl rfl rfl (Cl.kept fun _ h => h) (R.fieldAddr fo_23_2 (.t rfl)) ?_
    refine At.s rfl rfl rfl rfl (Cl.kept fun _ h => h) (R.load Try.underlying3 rfl (.t rfl) (by first | exact cin_kept (.head _) rfl | exact cin_kept (.tail _ (.head _)) rfl | exact cin_kept (.tail _ (.tail _ (.head _))) rfl | exact cin_kept (.tail _ (.tail _ (.tail _ (.head _)))) rfl | exact cin_kept (.tail _ (.tail _ (.tail _ (.tail _ (.head _))))) rfl | exact cin_kept (.tail _ (.tail _ (.tail _ (.tail _ (.tail _ (.head _)))))) rfl | exact cin_kept (.tail _ (.tail _ (.tail _ (.tail _ (.tail _ (.tail _ (.head _))))))) rfl | exact cin_kept (.tail _ (.tail _ (.tail _ (.tail _ (.tail _ (.tail _ (.tail _ (.head _)))))))) rfl)) ?_
    refine At.callV rfl rfl rfl (.cons (.t rfl) .nil) (fun hg => c_rTop (by omega) (by omega) (by omega) (by omega)) (by simp) (Cl.kept fun _ h => h) ?_
    first | refine At.s rfl rfl rfl rfl (Cl.kept fun _ h => h) (R.as (R.gtr (.t rfl) (.t rfl)) (fun _ => congrArg Value.bool (decide_eq_true (by omega)))) ?_ | refine At.s rfl rfl rfl rfl (Cl.kept fun _ h => h) (R.as (R.gtr (.t rfl) (.t rfl)) (fun _ => congrArg Value.bool (decide_eq_false (by omega)))) ?_ | refine At.s rfl rfl rfl rfl (Cl.kept fun _ h => h) (R.gtr (.t rfl) (.t rfl)) ?_
    refine At.nil ?_
    refine At.tN ?_
    first | refine At.condD (.t rfl) (fun c2 => ?_) (fun c2 => ?_) | refine At.condN (.t rfl) (fun c2 => ?_) (fun c2 => ?_) | refine At.cond (.t rfl) (fun c2 => ?_) (fun c2 => ?_)
    · skip
      refine At.seq ?_
      refine At.plain [(false, 0)] rfl ?_
      refine At.e rfl rfl rfl rfl .all (R.assign .c) ?_
      refine At.nil ?_
      refine At.tN ?_
      refine At.ret ?_
      refine At.tR ?_
      exact At.final rfl (.t rfl) (List.nil_sublist _) (⟨congrArg (Value.int .i64) (by unfold isConfF; first | (rw [if_pos (by omega)]) | (rw [if_neg (by omega), if_pos (by omega)]) | (rw [if_neg (by omega), if_neg (by omega)])), rfl, rfl⟩)
    · skip
      refine At.skip ?_
      refine At.tN ?_
      refine At.seq ?_
      refine At.plain [(false, 0)] rfl ?_
      refine At.e rfl rfl rfl rfl .all (R.assign .c) ?_
      refine At.nil ?_
      refine At.tN ?_
      refine At.ret ?_
      exact At.final rfl (.t rfl) (List.nil_sublist _) (⟨congrArg (Value.int .i64) (by unfold isConfF; first | (rw [if_pos (by omega)]) | (rw [if_neg (by omega), if_pos (by omega)]) | (rw [if_neg (by omega), if_neg (by omega)])), rfl, rfl⟩)

theorem c_known26  : Fn Try.prog 16 [] [] [] (IsV (.bool true)) := by
  refine Fn.enter Try.func16 (by kernel_rfl) rfl (n := 26) rfl rfl (fun w => ?_)
  refine At.seq ?_
  refine At.plain [(false, 0)] rfl ?_
  refine At.e rfl rfl rfl rfl .all (R.assign .c) ?_
  refine At.nil ?_
  refine At.tN ?_
  refine At.seq ?_
  refine At.plain [(false, 0), (false, 1), (false, 2)] rfl ?_
  refine At.callV rfl rfl rfl (.cons .c (.cons .c (.cons .c .nil))) (fun hg => c_Conf) (by simp) .all ?_
  refine At.alloc rfl rfl rfl ze_23 (fun b1 hb1 => ⟨.all, ?_⟩)
  first | refine At.stN rfl rfl sz_23 (.t rfl) (.t rfl) rfl rfl rfl (.n .here) ⟨.all, ?_⟩ | refine At.stN rfl rfl sz_23 (.t rfl) (.t rfl) rfl rfl rfl (.n (.there .here)) ⟨.all, ?_⟩ | refine At.stN rfl rfl sz_23 (.t rfl) (.t rfl) rfl rfl rfl (.n (.there (.there .here))) ⟨.all, ?_⟩ | refine At.stN rfl rfl sz_23 (.t rfl) (.t rfl) rfl rfl rfl (.n (.there (.there (.there .here)))) ⟨.all, ?_⟩ | refine At.stN rfl rfl sz_23 (.t rfl) (.t rfl) rfl rfl rfl (.n (.there (.there (.there (.there .here))))) ⟨.all, ?_⟩ | refine At.stN rfl rfl sz_23 (.t rfl) (.t rfl) rfl rfl rfl (.n (.there (.there (.there (.there (.there .here)))))) ⟨.all, ?_⟩ | refine At.stN rfl rfl sz_23 (.t rfl) (.t rfl) rfl rfl rfl (.n (.there (.there (.there (.there (.there (.there .here))))))) ⟨.all, ?_⟩ | refine At.stN rfl rfl sz_23 (.t rfl) (.t rfl) rfl rfl rfl (.n (.there (.there (.there (.there (.there (.there (.there .here)))))))) ⟨.all, ?_⟩ | refine At.stN rfl rfl sz_23 (.t rfl) (.t rfl) rfl rfl rfl (.h .here) ⟨.all, ?_⟩ | refine At.stN rfl rfl sz_23 (.t rfl) (.t rfl) rfl rfl rfl (.h (.there .here)) ⟨.all, ?_⟩ | refine At.stN rfl rfl sz_23 (.t rfl) (.t rfl) rfl rfl rfl (.h (.there (.there .here))) ⟨.all, ?_⟩ | refine At.stN rfl rfl sz_23 (.t rfl) (.t rfl) rfl rfl rfl (.h (.there (.there (.there .here)))) ⟨.all, ?_⟩
  refine At.nil ?_
  refine At.tN ?_
  refine At.seq ?_
  refine At.plain [(false, 0), (false, 1), (false, 2), (false, 3), (false, 4), (false, 5), (false, 6), (false, 7), (false, 8), (false, 9), (false, 10), (false, 11), (false, 12), (false, 13), (false, 14), (false, 15), (false, 16), (false, 17), (false, 18), (false, 19), (false, 20), (false, 21), (false, 22), (false, 23)] rfl ?_
  refine At.e rfl rfl rfl rfl .all (R.loadAgg (vs := [_, _, _, _]) Try.underlying23 rfl sz_23 (.t rfl) (by first | exact csin_new (.head _) ⟨rfl, rfl, rfl, rfl, trivial⟩ | exact csin_new (.tail _ (.head _)) ⟨rfl, rfl, rfl, rfl, trivial⟩ | exact csin_new (.tail _ (.tail _ (.head _))) ⟨rfl, rfl, rfl, rfl, trivial⟩ | exact csin_new (.tail _ (.tail _ (.tail _ (.head _)))) ⟨rfl, rfl, rfl, rfl, trivial⟩ | exact csin_new (.tail _ (.tail _ (.tail _ (.tail _ (.head _))))) ⟨rfl, rfl, rfl, rfl, trivial⟩ | exact csin_new (.tail _ (.tail _ (.tail _ (.tail _ (.tail _ (.head _)))))) ⟨rfl, rfl, rfl, rfl, trivial⟩ | exact csin_new (.tail _ (.tail _ (.tail _ (.tail _ (.tail _ (.tail _ (.head _))))))) ⟨rfl, rfl, rfl, rfl, trivial⟩ | exact csin_new (.tail _ (.tail _ (.tail _ (.tail _ (.tail _ (.tail _ (.tail _ (.head _)))))))) ⟨rfl, rfl, rfl, rfl, trivial⟩)) ?_
  refine At.callV rfl rfl rfl (.cons (.t rfl) (.cons .c .nil)) (fun hg => c_Chunks (by omega) (by omega) (by omega) (by omega) (by omega) (by omega)) (by simp) .all ?_
  first | refine At.e rfl rfl rfl rfl .all (R.as (R.eql (.t rfl) .c) (fun _ => congrArg Value.bool (decide_eq_true (by first | rfl | omega)))) ?_ | refine At.e rfl rfl rfl rfl .all (R.as (R.eql (.t rfl) .c) (fun _ => congrArg Value.bool (decide_eq_false (by omega)))) ?_ | refine At.e rfl rfl rfl rfl .all (R.eql (.t rfl) .c) ?_
  refine At.e rfl rfl rfl rfl .all (R.move (.t rfl)) ?_
  first | refine At.eF rfl rfl rfl rfl .all ?_ | refine At.e rfl rfl rfl rfl .all (R.loadAgg (vs := [_, _, _, _]) Try.underlying23 rfl sz_23 (by first | exact .t rfl | exact .s rfl | exact .i rfl (by simp_all)) (by first | exact csin_new (.head _) ⟨rfl, rfl, rfl, rfl, trivial⟩ | exact csin_new (.tail _ (.head _)) ⟨rfl, rfl, rfl, rfl, trivial⟩ | exact csin_new (.tail _ (.tail _ (.head _))) ⟨rfl, rfl, rfl, rfl, trivial⟩ | exact csin_new (.tail _ (.tail _ (.tail _ (.head _)))) ⟨rfl, rfl, rfl, rfl, trivial⟩ | exact csin_new (.tail _ (.tail _ (.tail _ (.tail _ (.head _))))) ⟨rfl, rfl, rfl, rfl, trivial⟩ | exact csin_new (.tail _ (.tail _ (.tail _ (.tail _ (.tail _ (.head _)))))) ⟨rfl, rfl, rfl, rfl, trivial⟩ | exact csin_new (.tail _ (.tail _ (.tail _ (.tail _ (.tail _ (.tail _ (.head _))))))) ⟨rfl, rfl, rfl, rfl, trivial⟩ | exact csin_new (.tail _ (.tail _ (.tail _ (.tail _ (.tail _ (.tail _ (.tail _ (.head _)))))))) ⟨rfl, rfl, rfl, rfl, trivial⟩)) ?_
  first | refine At.eF rfl rfl rfl rfl .all ?_ | refine At.callV rfl rfl rfl (.cons (by first | exact .t rfl | exact .s rfl | exact .i rfl (by simp_all)) (.cons .c .nil)) (fun hg => c_Chunks (by omega) (by omega) (by omega) (by omega) (by omega) (by omega)) (by simp) .all ?_
  first | refine At.eF rfl rfl rfl rfl .all ?_ | refine At.e rfl rfl rfl rfl .all (R.as (R.eql (by first | exact .t rfl | exact .s rfl | exact .i rfl (by simp_all)) .c) (fun _ => congrArg Value.bool (decide_eq_true (by first | rfl | omega)))) ?_ | refine At.e rfl rfl rfl rfl .all (R.as (R.eql (by first | exact .t rfl | exact .s rfl | exact .i rfl (by simp_all)) .c) (fun _ => congrArg Value.bool (decide_eq_false (by omega)))) ?_ | refine At.e rfl rfl rfl rfl .all (R.eql (by first | exact .t rfl | exact .s rfl | exact .i rfl (by simp_all)) .c) ?_
  first | refine At.e rfl rfl rfl rfl .all (R.pickT (.t rfl) (.t rfl)) ?_ | refine At.e rfl rfl rfl rfl .all (R.pickF (.t rfl) .c) ?_ | refine At.e rfl rfl rfl rfl .all (R.pickAnd (.t rfl) rfl (by simp_all)) ?_
  refine At.e rfl rfl rfl rfl .all (R.move (.t rfl)) ?_
  first | refine At.eF rfl rfl rfl rfl .all ?_ | refine At.e rfl rfl rfl rfl .all (R.loadAgg (vs := [_, _, _, _]) Try.underlying23 rfl sz_23 (by first | exact .t rfl | exact .s rfl | exact .i rfl (by simp_all)) (by first | exact csin_new (.head _) ⟨rfl, rfl, rfl, rfl, trivial⟩ | exact csin_new (.tail _ (.head _)) ⟨rfl, rfl, rfl, rfl, trivial⟩ | exact csin_new (.tail _ (.tail _ (.head _))) ⟨rfl, rfl, rfl, rfl, trivial⟩ | exact csin_new (.tail _ (.tail _ (.tail _ (.head _)))) ⟨rfl, rfl, rfl, rfl, trivial⟩ | exact csin_new (.tail _ (.tail _ (.tail _ (.tail _ (.head _))))) ⟨rfl, rfl, rfl, rfl, trivial⟩ | exact csin_new (.tail _ (.tail _ (.tail _ (.tail _ (.tail _ (.head _)))))) ⟨rfl, rfl, rfl, rfl, trivial⟩ | exact csin_new (.tail _ (.tail _ (.tail _ (.tail _ (.tail _ (.tail _ (.head _))))))) ⟨rfl, rfl, rfl, rfl, trivial⟩ | exact csin_new (.tail _ (.tail _ (.tail _ (.tail _ (.tail _ (.tail _ (.tail _ (.head _)))))))) ⟨rfl, rfl, rfl, rfl, trivial⟩)) ?_
  first | refine At.eF rfl rfl rfl rfl .all ?_ | refine At.callV rfl rfl rfl (.cons (by first | exact .t rfl | exact .s rfl | exact .i rfl (by simp_all)) (.cons .c .nil)) (fun hg => c_Get (by omega) (by omega) (by omega) (by omega)) (by simp) .all ?_
  first | refine At.eF rfl rfl rfl rfl .all ?_ | refine At.e rfl rfl rfl rfl .all (R.as (R.eql (by first | exact .t rfl | exact .s rfl | exact .i rfl (by simp_all)) .c) (fun _ => congrArg Value.bool (decide_eq_true (by first | rfl | omega)))) ?_ | refine At.e rfl rfl rfl rfl .all (R.as (R.eql (by first | exact .t rfl | exact .s rfl | exact .i rfl (by simp_all)) .c) (fun _ => congrArg Value.bool (decide_eq_false (by omega)))) ?_ | refine At.e rfl rfl rfl rfl .all (R.eql (by first | exact .t rfl | exact .s rfl | exact .i rfl (by simp_all)) .c) ?_
  first | refine At.e rfl rfl rfl rfl .all (R.pickT (.t rfl) (.t rfl)) ?_ | refine At.e rfl rfl rfl rfl .all (R.pickF (.t rfl) .c) ?_ | refine At.e rfl rfl rfl rfl .all (R.pickAnd (.t rfl) rfl (by simp_all)) ?_
  refine At.e rfl rfl rfl rfl .all (R.move (.t rfl)) ?_
  first | refine At.eF rfl rfl rfl rfl .all ?_ | refine At.e rfl rfl rfl rfl .all (R.loadAgg (vs := [_, _, _, _]) Try.underlying23 rfl sz_23 (by first | exact .t rfl | exact .s rfl | exact .i rfl (by simp_all)) (by first | exact csin_new (.head _) ⟨rfl, rfl, rfl, rfl, trivial⟩ | exact csin_new (.tail _ (.head _)) ⟨rfl, rfl, rfl, rfl, trivial⟩ | exact csin_new (.tail _ (.tail _ (.head _))) ⟨rfl, rfl, rfl, rfl, trivial⟩ | exact csin_new (.tail _ (.tail _ (.tail _ (.head _)))) ⟨rfl, rfl, rfl, rfl, trivial⟩ | exact csin_new (.tail _ (.tail _ (.tail _ (.tail _ (.head _))))) ⟨rfl, rfl, rfl, rfl, trivial⟩ | exact csin_new (.tail _ (.tail _ (.tail _ (.tail _ (.tail _ (.head _)))))) ⟨rfl, rfl, rfl, rfl, trivial⟩ | exact csin_new (.tail _ (.tail _ (.tail _ (.tail _ (.tail _ (.tail _ (.head _))))))) ⟨rfl, rfl, rfl, rfl, trivial⟩ | exact csin_new (.tail _ (.tail _ (.tail _ (.tail _ (.tail _ (.tail _ (.tail _ (.head _)))))))) ⟨rfl, rfl, rfl, rfl, trivial⟩)) ?_
  first | refine At.eF rfl rfl rfl rfl .all ?_ | refine At.callV rfl rfl rfl (.cons (by first | exact .t rfl | exact .s rfl | exact .i rfl (by simp_all)) (.cons .c .nil)) (fun hg => c_Scan (by omega) (by omega) (by omega) (by omega)) (by simp) .all ?_
  first | refine At.eF rfl rfl rfl rfl .all ?_ | refine At.e rfl rfl rfl rfl .all (R.as (R.eql (by first | exact .t rfl | exact .s rfl | exact .i rfl (by simp_all)) .c) (fun _ => congrArg Value.bool (decide_eq_true (by first | rfl | omega)))) ?_ | refine At.e rfl rfl rfl rfl .all (R.as (R.eql (by first | exact .t rfl | exact .s rfl | exact .i rfl (by simp_all)) .c) (fun _ => congrArg Value.bool (decide_eq_false (by omega)))) ?_ | refine At.e rfl rfl rfl rfl .all (R.eql (by first | exact .t rfl | exact .s rfl | exact .i rfl (by simp_all)) .c) ?_
  first | refine At.e rfl rfl rfl rfl .all (R.pickT (.t rfl) (.t rfl)) ?_ | refine At.e rfl rfl rfl rfl .all (R.pickF (.t rfl) .c) ?_ | refine At.e rfl rfl rfl rfl .all (R.pickAnd (.t rfl) rfl (by simp_all)) ?_
  refine At.e rfl rfl rfl rfl .all (R.move (.t rfl)) ?_
  first | refine At.eF rfl rfl rfl rfl .all ?_ | refine At.e rfl rfl rfl rfl .all (R.loadAgg (vs := [_, _, _, _]) Try.underlying23 rfl sz_23 (by first | exact .t rfl | exact .s rfl | exact .i rfl (by simp_all)) (by first | exact csin_new (.head _) ⟨rfl, rfl, rfl, rfl, trivial⟩ | exact csin_new (.tail _ (.head _)) ⟨rfl, rfl, rfl, rfl, trivial⟩ | exact csin_new (.tail _ (.tail _ (.head _))) ⟨rfl, rfl, rfl, rfl, trivial⟩ | exact csin_new (.tail _ (.tail _ (.tail _ (.head _)))) ⟨rfl, rfl, rfl, rfl, trivial⟩ | exact csin_new (.tail _ (.tail _ (.tail _ (.tail _ (.head _))))) ⟨rfl, rfl, rfl, rfl, trivial⟩ | exact csin_new (.tail _ (.tail _ (.tail _ (.tail _ (.tail _ (.head _)))))) ⟨rfl, rfl, rfl, rfl, trivial⟩ | exact csin_new (.tail _ (.tail _ (.tail _ (.tail _ (.tail _ (.tail _ (.head _))))))) ⟨rfl, rfl, rfl, rfl, trivial⟩ | exact csin_new (.tail _ (.tail _ (.tail _ (.tail _ (.tail _ (.tail _ (.tail _ (.head _)))))))) ⟨rfl, rfl, rfl, rfl, trivial⟩)) ?_
  first | refine At.eF rfl rfl rfl rfl .all ?_ | refine At.callV rfl rfl rfl (.cons (by first | exact .t rfl | exact .s rfl | exact .i rfl (by simp_all)) (.cons .c .nil)) (fun hg => c_Solo (by omega) (by omega) (by omega) (by omega) (by omega) (by omega)) (by simp) .all ?_
  first | refine At.eF rfl rfl rfl rfl .all ?_ | refine At.e rfl rfl rfl rfl .all (R.as (R.eql (by first | exact .t rfl | exact .s rfl | exact .i rfl (by simp_all)) .c) (fun _ => congrArg Value.bool (decide_eq_true (by first | rfl | omega)))) ?_ | refine At.e rfl rfl rfl rfl .all (R.as (R.eql (by first | exact .t rfl | exact .s rfl | exact .i rfl (by simp_all)) .c) (fun _ => congrArg Value.bool (decide_eq_false (by omega)))) ?_ | refine At.e rfl rfl rfl rfl .all (R.eql (by first | exact .t rfl | exact .s rfl | exact .i rfl (by simp_all)) .c) ?_
  first | refine At.e rfl rfl rfl rfl .all (R.pickT (.t rfl) (.t rfl)) ?_ | refine At.e rfl rfl rfl rfl .all (R.pickF (.t rfl) .c) ?_ | refine At.e rfl rfl rfl rfl .all (R.pickAnd (.t rfl) rfl (by simp_all)) ?_
  refine At.e rfl rfl rfl rfl .all (R.assign (.t rfl)) ?_
  refine At.nil ?_
  refine At.tN ?_
  refine At.ret ?_
  exact At.final rfl (.t rfl) (List.nil_sublist _) (⟨rfl, rfl, rfl⟩)

theorem l_BoundTells {a b c d : Int} {m k : Int} (hm : 0 ≤ m ∧ m ≤ 65535) (hk : 0 ≤ k ∧ k ≤ 65535) : Fn Try.prog 3 [confV a b c d, .int .u16 m, .int .u16 k] [] [] (IsV (.bool true)) := by
  refine Fn.enter Try.func3 (by kernel_rfl) rfl (n := 52) rfl rfl (fun w => ?_)
  refine At.seq ?_
  refine At.plain [(false, 0), (false, 1)] rfl ?_
  refine At.box rfl rfl rfl (.t rfl) (fun b1 hb1 => ⟨.all, ?_⟩)
  refine At.e rfl rfl rfl rfl .all (R.assign .c) ?_
  refine At.nil ?_
  refine At.tN ?_
  refine At.seq ?_
  refine At.seq ?_
  refine At.plain [(false, 0), (false, 1)] rfl ?_
  refine At.callV rfl rfl rfl .nil (fun hg => c_known26) (by simp) .all ?_
  refine At.e rfl rfl rfl rfl .all (R.not (.t rfl)) ?_
  refine At.nil ?_
  refine At.tN ?_
  refine At.condF (.t rfl) ?_
  refine At.skip ?_
  refine At.tN ?_
  refine At.seq ?_
  refine At.seq ?_
  refine At.plain [(false, 0), (false, 1), (false, 2)] rfl ?_
  refine At.e rfl rfl rfl rfl .all (R.loadAgg (vs := [_, _, _, _]) Try.underlying23 rfl sz_23 (.t rfl) (by first | exact csin_new (.head _) ⟨rfl, rfl, rfl, rfl, trivial⟩ | exact csin_new (.tail _ (.head _)) ⟨rfl, rfl, rfl, rfl, trivial⟩ | exact csin_new (.tail _ (.tail _ (.head _))) ⟨rfl, rfl, rfl, rfl, trivial⟩ | exact csin_new (.tail _ (.tail _ (.tail _ (.head _)))) ⟨rfl, rfl, rfl, rfl, trivial⟩ | exact csin_new (.tail _ (.tail _ (.tail _ (.tail _ (.head _))))) ⟨rfl, rfl, rfl, rfl, trivial⟩ | exact csin_new (.tail _ (.tail _ (.tail _ (.tail _ (.tail _ (.head _)))))) ⟨rfl, rfl, rfl, rfl, trivial⟩ | exact csin_new (.tail _ (.tail _ (.tail _ (.tail _ (.tail _ (.tail _ (.head _))))))) ⟨rfl, rfl, rfl, rfl, trivial⟩ | exact csin_new (.tail _ (.tail _ (.tail _ (.tail _ (.tail _ (.tail _ (.tail _ (.head _)))))))) ⟨rfl, rfl, rfl, rfl, trivial⟩)) ?_
  refine At.callV rfl rfl rfl (.cons (.t rfl) .nil) (fun hg => c_IsConf) (by simp) .all ?_
  first | refine At.e rfl rfl rfl rfl .all (R.as (R.neq (.t rfl) .c) (fun _ => congrArg Value.bool (congrArg Bool.not (decide_eq_true (by first | rfl | omega))))) ?_ | refine At.e rfl rfl rfl rfl .all (R.as (R.neq (.t rfl) .c) (fun _ => congrArg Value.bool (congrArg Bool.not (decide_eq_false (by omega))))) ?_ | refine At.e rfl rfl rfl rfl .all (R.neq (.t rfl) .c) ?_
  refine At.nil ?_
  refine At.tN ?_
  first | refine At.condD (.t rfl) (fun c2 => ?_) (fun c2 => ?_) | refine At.condN (.t rfl) (fun c2 => ?_) (fun c2 => ?_) | refine At.cond (.t rfl) (fun c2 => ?_) (fun c2 => ?_)
  · skip
    refine At.seq ?_
    refine At.plain [(false, 0)] rfl ?_
    refine At.e rfl rfl rfl rfl .all (R.assign .c) ?_
    refine At.nil ?_
    refine At.tN ?_
    refine At.ret ?_
    refine At.tR ?_
    exact At.final rfl (.t rfl) (List.nil_sublist _) (⟨rfl, rfl, rfl⟩)
  · have hz := isConf_zero c2
    refine At.skip ?_
    refine At.tN ?_
    refine At.seq ?_
    refine At.plain [(false, 0), (false, 1), (false, 2), (false, 3), (false, 4), (false, 5)] rfl ?_
    refine At.e rfl rfl rfl rfl .all (R.move (.t rfl)) ?_
    first | refine At.e rfl rfl rfl rfl .all (R.as (R.conv Try.underlying24 Try.underlying3 (.t rfl)) (fun _ => congrArg (Value.int .i64) (IntWalk.i64_in _ (by omega)))) ?_ | refine At.e rfl rfl rfl rfl .all (R.conv Try.underlying24 Try.underlying3 (.t rfl)) ?_
    refine At.e rfl rfl rfl rfl .all (R.move (.t rfl)) ?_
    first | refine At.e rfl rfl rfl rfl .all (R.as (R.conv Try.underlying24 Try.underlying3 (.t rfl)) (fun _ => congrArg (Value.int .i64) (IntWalk.i64_in _ (by omega)))) ?_ | refine At.e rfl rfl rfl rfl .all (R.conv Try.underlying24 Try.underlying3 (.t rfl)) ?_
    refine At.e rfl rfl rfl rfl .all (R.assign (.t rfl)) ?_
    refine At.e rfl rfl rfl rfl .all (R.assign (.t rfl)) ?_
    refine At.nil ?_
    refine At.tN ?_
    refine At.seq ?_
    refine At.drawK [(true, 0), (true, 1), (true, 3), (true, 4), (false, 2), (false, 5), (true, 6), (true, 7), (true, 8), (true, 9), (true, 11), (true, 12), (false, 10), (false, 13), (true, 14), (true, 15), (true, 16), (true, 17), (true, 18), (true, 20), (true, 21), (false, 19), (false, 22), (true, 23), (true, 24), (true, 25), (true, 26), (true, 27), (true, 29), (true, 30), (false, 28), (false, 31), (true, 32), (true, 33), (true, 34)] (by kernel_rfl) (by kernel_rfl) ?_
    refine At.s rfl rfl rfl rfl (Cl.kept fun _ h => h) (R.loadAgg (vs := [_, _, _, _]) Try.underlying23 rfl sz_23 (.t rfl) (by first | exact csin_kept (.head _) ⟨rfl, rfl, rfl, rfl, trivial⟩ | exact csin_kept (.tail _ (.head _)) ⟨rfl, rfl, rfl, rfl, trivial⟩ | exact csin_kept (.tail _ (.tail _ (.head _))) ⟨rfl, rfl, rfl, rfl, trivial⟩ | exact csin_kept (.tail _ (.tail _ (.tail _ (.head _)))) ⟨rfl, rfl, rfl, rfl, trivial⟩ | exact csin_kept (.tail _ (.tail _ (.tail _ (.tail _ (.head _))))) ⟨rfl, rfl, rfl, rfl, trivial⟩ | exact csin_kept (.tail _ (.tail _ (.tail _ (.tail _ (.tail _ (.head _)))))) ⟨rfl, rfl, rfl, rfl, trivial⟩ | exact csin_kept (.tail _ (.tail _ (.tail _ (.tail _ (.tail _ (.tail _ (.head _))))))) ⟨rfl, rfl, rfl, rfl, trivial⟩ | exact csin_kept (.tail _ (.tail _ (.tail _ (.tail _ (.tail _ (.tail _ (.tail _ (.head _)))))))) ⟨rfl, rfl, rfl, rfl, trivial⟩)) ?_
    refine At.s rfl rfl rfl rfl (Cl.kept fun _ h => h) (R.move (.t rfl)) ?_
    refine At.s rfl rfl rfl rfl (Cl.kept fun _ h => h) (R.loadAgg (vs := [_, _, _, _]) Try.underlying23 rfl sz_23 (.t rfl) (by first | exact csin_kept (.head _) ⟨rfl, rfl, rfl, rfl, trivial⟩ | exact csin_kept (.tail _ (.head _)) ⟨rfl, rfl, rfl, rfl, trivial⟩ | exact csin_kept (.tail _ (.tail _ (.head _))) ⟨rfl, rfl, rfl, rfl, trivial⟩ | exact csin_kept (.tail _ (.tail _ (.tail _ (.head _)))) ⟨rfl, rfl, rfl, rfl, trivial⟩ | exact csin_kept (.tail _ (.tail _ (.tail _ (.tail _ (.head _))))) ⟨rfl, rfl, rfl, rfl, trivial⟩ | exact csin_kept (.tail _ (.tail _ (.tail _ (.tail _ (.tail _ (.head _)))))) ⟨rfl, rfl, rfl, rfl, trivial⟩ | exact csin_kept (.tail _ (.tail _ (.tail _ (.tail _ (.tail _ (.tail _ (.head _))))))) ⟨rfl, rfl, rfl, rfl, trivial⟩ | exact csin_kept (.tail _ (.tail _ (.tail _ (.tail _ (.tail _ (.tail _ (.tail _ (.head _)))))))) ⟨rfl, rfl, rfl, rfl, trivial⟩)) ?_
    refine At.s rfl rfl rfl rfl (Cl.kept fun _ h => h) (R.move (.t rfl)) ?_
    refine At.callV rfl rfl rfl (.cons (.t rfl) (.cons (.t rfl) .nil)) (fun hg => c_Chunks (by omega) (by omega) (by omega) (by omega) (by omega) (by omega)) (by simp) (Cl.kept fun _ h => h) ?_
    refine At.callV rfl rfl rfl (.cons (.t rfl) (.cons (.t rfl) .nil)) (fun hg => c_rChunks (by omega) (by omega) (by omega) (by omega) (by omega) (by omega)) (by simp) (Cl.kept fun _ h => h) ?_
    first | refine At.s rfl rfl rfl rfl (Cl.kept fun _ h => h) (R.as (R.eql (.t rfl) (.t rfl)) (fun _ => congrArg Value.bool (decide_eq_true (by first | rfl | omega)))) ?_ | refine At.s rfl rfl rfl rfl (Cl.kept fun _ h => h) (R.as (R.eql (.t rfl) (.t rfl)) (fun _ => congrArg Value.bool (decide_eq_false (by omega)))) ?_ | refine At.s rfl rfl rfl rfl (Cl.kept fun _ h => h) (R.eql (.t rfl) (.t rfl)) ?_
    refine At.s rfl rfl rfl rfl (Cl.kept fun _ h => h) (R.move (.t rfl)) ?_
    first | refine At.sF rfl rfl rfl rfl (Cl.kept fun _ h => h) ?_ | refine At.s rfl rfl rfl rfl (Cl.kept fun _ h => h) (R.loadAgg (vs := [_, _, _, _]) Try.underlying23 rfl sz_23 (by first | exact .t rfl | exact .s rfl | exact .i rfl (by simp_all)) (by first | exact csin_kept (.head _) ⟨rfl, rfl, rfl, rfl, trivial⟩ | exact csin_kept (.tail _ (.head _)) ⟨rfl, rfl, rfl, rfl, trivial⟩ | exact csin_kept (.tail _ (.tail _ (.head _))) ⟨rfl, rfl, rfl, rfl, trivial⟩ | exact csin_kept (.tail _ (.tail _ (.tail _ (.head _)))) ⟨rfl, rfl, rfl, rfl, trivial⟩ | exact csin_kept (.tail _ (.tail _ (.tail _ (.tail _ (.head _))))) ⟨rfl, rfl, rfl, rfl, trivial⟩ | exact csin_kept (.tail _ (.tail _ (.tail _ (.tail _ (.tail _ (.head _)))))) ⟨rfl, rfl, rfl, rfl, trivial⟩ | exact csin_kept (.tail _ (.tail _ (.tail _ (.tail _ (.tail _ (.tail _ (.head _))))))) ⟨rfl, rfl, rfl, rfl, trivial⟩ | exact csin_kept (.tail _ (.tail _ (.tail _ (.tail _ (.tail _ (.tail _ (.tail _ (.head _)))))))) ⟨rfl, rfl, rfl, rfl, trivial⟩)) ?_
    first | refine At.sF rfl rfl rfl rfl (Cl.kept fun _ h => h) ?_ | refine At.s rfl rfl rfl rfl (Cl.kept fun _ h => h) (R.move (by first | exact .t rfl | exact .s rfl | exact .i rfl (by simp_all))) ?_
    first | refine At.sF rfl rfl rfl rfl (Cl.kept fun _ h => h) ?_ | refine At.s rfl rfl rfl rfl (Cl.kept fun _ h => h) (R.loadAgg (vs := [_, _, _, _]) Try.underlying23 rfl sz_23 (by first | exact .t rfl | exact .s rfl | exact .i rfl (by simp_all)) (by first | exact csin_kept (.head _) ⟨rfl, rfl, rfl, rfl, trivial⟩ | exact csin_kept (.tail _ (.head _)) ⟨rfl, rfl, rfl, rfl, trivial⟩ | exact csin_kept (.tail _ (.tail _ (.head _))) ⟨rfl, rfl, rfl, rfl, trivial⟩ | exact csin_kept (.tail _ (.tail _ (.tail _ (.head _)))) ⟨rfl, rfl, rfl, rfl, trivial⟩ | exact csin_kept (.tail _ (.tail _ (.tail _ (.tail _ (.head _))))) ⟨rfl, rfl, rfl, rfl, trivial⟩ | exact csin_kept (.tail _ (.tail _ (.tail _ (.tail _ (.tail _ (.head _)))))) ⟨rfl, rfl, rfl, rfl, trivial⟩ | exact csin_kept (.tail _ (.tail _ (.tail _ (.tail _ (.tail _ (.tail _ (.head _))))))) ⟨rfl, rfl, rfl, rfl, trivial⟩ | exact csin_kept (.tail _ (.tail _ (.tail _ (.tail _ (.tail _ (.tail _ (.tail _ (.head _)))))))) ⟨rfl, rfl, rfl, rfl, trivial⟩)) ?_
    first | refine At.sF rfl rfl rfl rfl (Cl.kept fun _ h => h) ?_ | refine At.s rfl rfl rfl rfl (Cl.kept fun _ h => h) (R.move (by first | exact .t rfl | exact .s rfl | exact .i rfl (by simp_all))) ?_
    first | refine At.eF rfl rfl rfl rfl (Cl.kept fun _ h => h) ?_ | refine At.callV rfl rfl rfl (.cons (by first | exact .t rfl | exact .s rfl | exact .i rfl (by simp_all)) (.cons (by first | exact .t rfl | exact .s rfl | exact .i rfl (by simp_all)) .nil)) (fun hg => c_Get (by omega) (by omega) (by omega) (by omega)) (by simp) (Cl.kept fun _ h => h) ?_
    first | refine At.eF rfl rfl rfl rfl (Cl.kept fun _ h => h) ?_ | refine At.callV rfl rfl rfl (.cons (by first | exact .t rfl | exact .s rfl | exact .i rfl (by simp_all)) (.cons (by first | exact .t rfl | exact .s rfl | exact .i rfl (by simp_all)) .nil)) (fun hg => c_rGet (by omega) (by omega) (by omega) (by omega)) (by simp) (Cl.kept fun _ h => h) ?_
    first | refine At.sF rfl rfl rfl rfl (Cl.kept fun _ h => h) ?_ | refine At.s rfl rfl rfl rfl (Cl.kept fun _ h => h) (R.as (R.eql (by first | exact .t rfl | exact .s rfl | exact .i rfl (by simp_all)) (by first | exact .t rfl | exact .s rfl | exact .i rfl (by simp_all))) (fun _ => congrArg Value.bool (decide_eq_true (by first | rfl | omega)))) ?_ | refine At.s rfl rfl rfl rfl (Cl.kept fun _ h => h) (R.as (R.eql (by first | exact .t rfl | exact .s rfl | exact .i rfl (by simp_all)) (by first | exact .t rfl | exact .s rfl | exact .i rfl (by simp_all))) (fun _ => congrArg Value.bool (decide_eq_false (by omega)))) ?_ | refine At.s rfl rfl rfl rfl (Cl.kept fun _ h => h) (R.eql (by first | exact .t rfl | exact .s rfl | exact .i rfl (by simp_all)) (by first | exact .t rfl | exact .s rfl | exact .i rfl (by simp_all))) ?_
    first | refine At.s rfl rfl rfl rfl (Cl.kept fun _ h => h) (R.pickT (.t rfl) (.t rfl)) ?_ | refine At.s rfl rfl rfl rfl (Cl.kept fun _ h => h) (R.pickF (.t rfl) .c) ?_ | refine At.s rfl rfl rfl rfl (Cl.kept fun _ h => h) (R.pickAnd (.t rfl) rfl (by simp_all)) ?_
    refine At.s rfl rfl rfl rfl (Cl.kept fun _ h => h) (R.move (.t rfl)) ?_
    first | refine At.sF rfl rfl rfl rfl (Cl.kept fun _ h => h) ?_ | refine At.s rfl rfl rfl rfl (Cl.kept fun _ h => h) (R.loadAgg (vs := [_, _, _, _]) Try.underlying23 rfl sz_23 (by first | exact .t rfl | exact .s rfl | exact .i rfl (by simp_all)) (by first | exact csin_kept (.head _) ⟨rfl, rfl, rfl, rfl, trivial⟩ | exact csin_kept (.tail _ (.head _)) ⟨rfl, rfl, rfl, rfl, trivial⟩ | exact csin_kept (.tail _ (.tail _ (.head _))) ⟨rfl, rfl, rfl, rfl, trivial⟩ | exact csin_kept (.tail _ (.tail _ (.tail _ (.head _)))) ⟨rfl, rfl, rfl, rfl, trivial⟩ | exact csin_kept (.tail _ (.tail _ (.tail _ (.tail _ (.head _))))) ⟨rfl, rfl, rfl, rfl, trivial⟩ | exact csin_kept (.tail _ (.tail _ (.tail _ (.tail _ (.tail _ (.head _)))))) ⟨rfl, rfl, rfl, rfl, trivial⟩ | exact csin_kept (.tail _ (.tail _ (.tail _ (.tail _ (.tail _ (.tail _ (.head _))))))) ⟨rfl, rfl, rfl, rfl, trivial⟩ | exact csin_kept (.tail _ (.tail _ (.tail _ (.tail _ (.tail _ (.tail _ (.tail _ (.head _)))))))) ⟨rfl, rfl, rfl, rfl, trivial⟩)) ?_
    first | refine At.sF rfl rfl rfl rfl (Cl.kept fun _ h => h) ?_ | refine At.s rfl rfl rfl rfl (Cl.kept fun _ h => h) (R.move (by first | exact .t rfl | exact .s rfl | exact .i rfl (by simp_all))) ?_
    first | refine At.sF rfl rfl rfl rfl (Cl.kept fun _ h => h) ?_ | refine At.s rfl rfl rfl rfl (Cl.kept fun _ h => h) (R.loadAgg (vs := [_, _, _, _]) Try.underlying23 rfl sz_23 (by first | exact .t rfl | exact .s rfl | exact .i rfl (by simp_all)) (by first | exact csin_kept (.head _) ⟨rfl, rfl, rfl, rfl, trivial⟩ | exact csin_kept (.tail _ (.head _)) ⟨rfl, rfl, rfl, rfl, trivial⟩ | exact csin_kept (.tail _ (.tail _ (.head _))) ⟨rfl, rfl, rfl, rfl, trivial⟩ | exact csin_kept (.tail _ (.tail _ (.tail _ (.head _)))) ⟨rfl, rfl, rfl, rfl, trivial⟩ | exact csin_kept (.tail _ (.tail _ (.tail _ (.tail _ (.head _))))) ⟨rfl, rfl, rfl, rfl, trivial⟩ | exact csin_kept (.tail _ (.tail _ (.tail _ (.tail _ (.tail _ (.head _)))))) ⟨rfl, rfl, rfl, rfl, trivial⟩ | exact csin_kept (.tail _ (.tail _ (.tail _ (.tail _ (.tail _ (.tail _ (.head _))))))) ⟨rfl, rfl, rfl, rfl, trivial⟩ | exact csin_kept (.tail _ (.tail _ (.tail _ (.tail _ (.tail _ (.tail _ (.tail _ (.head _)))))))) ⟨rfl, rfl, rfl, rfl, trivial⟩)) ?_
    first | refine At.sF rfl rfl rfl rfl (Cl.kept fun _ h => h) ?_ | refine At.s rfl rfl rfl rfl (Cl.kept fun _ h => h) (R.move (by first | exact .t rfl | exact .s rfl | exact .i rfl (by simp_all))) ?_
    first | refine At.eF rfl rfl rfl rfl (Cl.kept fun _ h => h) ?_ | refine At.callV rfl rfl rfl (.cons (by first | exact .t rfl | exact .s rfl | exact .i rfl (by simp_all)) (.cons (by first | exact .t rfl | exact .s rfl | exact .i rfl (by simp_all)) .nil)) (fun hg => c_Scan (by omega) (by omega) (by omega) (by omega)) (by simp) (Cl.kept fun _ h => h) ?_
    first | refine At.eF rfl rfl rfl rfl (Cl.kept fun _ h => h) ?_ | refine At.callV rfl rfl rfl (.cons (by first | exact .t rfl | exact .s rfl | exact .i rfl (by simp_all)) (.cons (by first | exact .t rfl | exact .s rfl | exact .i rfl (by simp_all)) .nil)) (fun hg => c_rScan (by omega) (by omega) (by omega) (by omega)) (by simp) (Cl.kept fun _ h => h) ?_
    first | refine At.sF rfl rfl rfl rfl (Cl.kept fun _ h => h) ?_ | refine At.s rfl rfl rfl rfl (Cl.kept fun _ h => h) (R.as (R.eql (by first | exact .t rfl | exact .s rfl | exact .i rfl (by simp_all)) (by first | exact .t rfl | exact .s rfl | exact .i rfl (by simp_all))) (fun _ => congrArg Value.bool (decide_eq_true (by first | rfl | omega)))) ?_ | refine At.s rfl rfl rfl rfl (Cl.kept fun _ h => h) (R.as (R.eql (by first | exact .t rfl | exact .s rfl | exact .i rfl (by simp_all)) (by first | exact .t rfl | exact .s rfl | exact .i rfl (by simp_all))) (fun _ => congrArg Value.bool (decide_eq_false (by omega)))) ?_ | refine At.s rfl rfl rfl rfl (Cl.kept fun _ h => h) (R.eql (by first | exact .t rfl | exact .s rfl | exact .i rfl (by simp_all)) (by first | exact .t rfl | exact .s rfl | exact .i rfl (by simp_all))) ?_
    first | refine At.s rfl rfl rfl rfl (Cl.kept fun _ h => h) (R.pickT (.t rfl) (.t rfl)) ?_ | refine At.s rfl rfl rfl rfl (Cl.kept fun _ h => h) (R.pickF (.t rfl) .c) ?_ | refine At.s rfl rfl rfl rfl (Cl.kept fun _ h => h) (R.pickAnd (.t rfl) rfl (by simp_all)) ?_
    refine At.s rfl rfl rfl rfl (Cl.kept fun _ h => h) (R.move (.t rfl)) ?_
    first | refine At.sF rfl rfl rfl rfl (Cl.kept fun _ h => h) ?_ | refine At.s rfl rfl rfl rfl (Cl.kept fun _ h => h) (R.loadAgg (vs := [_, _, _, _]) Try.underlying23 rfl sz_23 (by first | exact .t rfl | exact .s rfl | exact .i rfl (by simp_all)) (by first | exact csin_kept (.head _) ⟨rfl, rfl, rfl, rfl, trivial⟩ | exact csin_kept (.tail _ (.head _)) ⟨rfl, rfl, rfl, rfl, trivial⟩ | exact csin_kept (.tail _ (.tail _ (.head _))) ⟨rfl, rfl, rfl, rfl, trivial⟩ | exact csin_kept (.tail _ (.tail _ (.tail _ (.head _)))) ⟨rfl, rfl, rfl, rfl, trivial⟩ | exact csin_kept (.tail _ (.tail _ (.tail _ (.tail _ (.head _))))) ⟨rfl, rfl, rfl, rfl, trivial⟩ | exact csin_kept (.tail _ (.tail _ (.tail _ (.tail _ (.tail _ (.head _)))))) ⟨rfl, rfl, rfl, rfl, trivial⟩ | exact csin_kept (.tail _ (.tail _ (.tail _ (.tail _ (.tail _ (.tail _ (.head _))))))) ⟨rfl, rfl, rfl, rfl, trivial⟩ | exact csin_kept (.tail _ (.tail _ (.tail _ (.tail _ (.tail _ (.tail _ (.tail _ (.head _)))))))) ⟨rfl, rfl, rfl, rfl, trivial⟩)) ?_
    first | refine At.sF rfl rfl rfl rfl (Cl.kept fun _ h => h) ?_ | refine At.s rfl rfl rfl rfl (Cl.kept fun _ h => h) (R.move (by first | exact .t rfl | exact .s rfl | exact .i rfl (by simp_all))) ?_
    first | refine At.sF rfl rfl rfl rfl (Cl.kept fun _ h => h) ?_ | refine At.s rfl rfl rfl rfl (Cl.kept fun _ h => h) (R.loadAgg (vs := [_, _, _, _]) Try.underlying23 rfl sz_23 (by first | exact .t rfl | exact .s rfl | exact .i rfl (by simp_all)) (by first | exact csin_kept (.head _) ⟨rfl, rfl, rfl, rfl, trivial⟩ | exact csin_kept (.tail _ (.head _)) ⟨rfl, rfl, rfl, rfl, trivial⟩ | exact csin_kept (.tail _ (.tail _ (.head _))) ⟨rfl, rfl, rfl, rfl, trivial⟩ | exact csin_kept (.tail _ (.tail _ (.tail _ (.head _)))) ⟨rfl, rfl, rfl, rfl, trivial⟩ | exact csin_kept (.tail _ (.tail _ (.tail _ (.tail _ (.head _))))) ⟨rfl, rfl, rfl, rfl, trivial⟩ | exact csin_kept (.tail _ (.tail _ (.tail _ (.tail _ (.tail _ (.head _)))))) ⟨rfl, rfl, rfl, rfl, trivial⟩ | exact csin_kept (.tail _ (.tail _ (.tail _ (.tail _ (.tail _ (.tail _ (.head _))))))) ⟨rfl, rfl, rfl, rfl, trivial⟩ | exact csin_kept (.tail _ (.tail _ (.tail _ (.tail _ (.tail _ (.tail _ (.tail _ (.head _)))))))) ⟨rfl, rfl, rfl, rfl, trivial⟩)) ?_
    first | refine At.sF rfl rfl rfl rfl (Cl.kept fun _ h => h) ?_ | refine At.s rfl rfl rfl rfl (Cl.kept fun _ h => h) (R.move (by first | exact .t rfl | exact .s rfl | exact .i rfl (by simp_all))) ?_
    first | refine At.eF rfl rfl rfl rfl (Cl.kept fun _ h => h) ?_ | refine At.callV rfl rfl rfl (.cons (by first | exact .t rfl | exact .s rfl | exact .i rfl (by simp_all)) (.cons (by first | exact .t rfl | exact .s rfl | exact .i rfl (by simp_all)) .nil)) (fun hg => c_Solo (by omega) (by omega) (by omega) (by omega) (by omega) (by omega)) (by simp) (Cl.kept fun _ h => h) ?_
    first | refine At.eF rfl rfl rfl rfl (Cl.kept fun _ h => h) ?_ | refine At.callV rfl rfl rfl (.cons (by first | exact .t rfl | exact .s rfl | exact .i rfl (by simp_all)) (.cons (by first | exact .t rfl | exact .s rfl | exact .i rfl (by simp_all)) .nil)) (fun hg => c_rSolo (by omega) (by omega) (by omega) (by omega) (by omega) (by omega)) (by simp) (Cl.kept fun _ h => h) ?_
    first | refine At.sF rfl rfl rfl rfl (Cl.kept fun _ h => h) ?_ | refine At.s rfl rfl rfl rfl (Cl.kept fun _ h => h) (R.as (R.eql (by first | exact .t rfl | exact .s rfl | exact .i rfl (by simp_all)) (by first | exact .t rfl | exact .s rfl | exact .i rfl (by simp_all))) (fun _ => congrArg Value.bool (decide_eq_true (by first | rfl | omega)))) ?_ | refine At.s rfl rfl rfl rfl (Cl.kept fun _ h => h) (R.as (R.eql (by first | exact .t rfl | exact .s rfl | exact .i rfl (by simp_all)) (by first | exact .t rfl | exact .s rfl | exact .i rfl (by simp_all))) (fun _ => congrArg Value.bool (decide_eq_false (by omega)))) ?_ | refine At.s rfl rfl rfl rfl (Cl.kept fun _ h => h) (R.eql (by first | exact .t rfl | exact .s rfl | exact .i rfl (by simp_all)) (by first | exact .t rfl | exact .s rfl | exact .i rfl (by simp_all))) ?_
    first | refine At.s rfl rfl rfl rfl (Cl.kept fun _ h => h) (R.pickT (.t rfl) (.t rfl)) ?_ | refine At.s rfl rfl rfl rfl (Cl.kept fun _ h => h) (R.pickF (.t rfl) .c) ?_ | refine At.s rfl rfl rfl rfl (Cl.kept fun _ h => h) (R.pickAnd (.t rfl) rfl (by simp_all)) ?_
    refine At.s rfl rfl rfl rfl (Cl.kept fun _ h => h) (R.assign (.t rfl)) ?_
    refine At.nil ?_
    refine At.tN ?_
    refine At.ret ?_
    exact At.final rfl (.t rfl) (List.nil_sublist _) (⟨rfl, rfl, rfl⟩)

theorem l_BoundGrows {a b c d : Int} {m k : Int} (hm : 0 ≤ m ∧ m ≤ 65535) (hk : 0 ≤ k ∧ k ≤ 65535) : Fn Try.prog 4 [confV a b c d, .int .u16 m, .int .u16 k] [] [] (IsV (.bool true)) := by
  refine Fn.enter Try.func4 (by kernel_rfl) rfl (n := 102) rfl rfl (fun w => ?_)
  refine At.seq ?_
  refine At.plain [(false, 0), (false, 1)] rfl ?_
  refine At.box rfl rfl rfl (.t rfl) (fun b1 hb1 => ⟨.all, ?_⟩)
  refine At.e rfl rfl rfl rfl .all (R.assign .c) ?_
  refine At.nil ?_
  refine At.tN ?_
  refine At.seq ?_
  refine At.seq ?_
  refine At.plain [(false, 0), (false, 1)] rfl ?_
  refine At.callV rfl rfl rfl .nil (fun hg => c_known26) (by simp) .all ?_
  refine At.e rfl rfl rfl rfl .all (R.not (.t rfl)) ?_
  refine At.nil ?_
  refine At.tN ?_
  refine At.condF (.t rfl) ?_
  refine At.skip ?_
  refine At.tN ?_
  refine At.seq ?_
  refine At.seq ?_
  refine At.plain [(false, 0), (false, 1), (false, 2)] rfl ?_
  refine At.e rfl rfl rfl rfl .all (R.loadAgg (vs := [_, _, _, _]) Try.underlying23 rfl sz_23 (.t rfl) (by first | exact csin_new (.head _) ⟨rfl, rfl, rfl, rfl, trivial⟩ | exact csin_new (.tail _ (.head _)) ⟨rfl, rfl, rfl, rfl, trivial⟩ | exact csin_new (.tail _ (.tail _ (.head _))) ⟨rfl, rfl, rfl, rfl, trivial⟩ | exact csin_new (.tail _ (.tail _ (.tail _ (.head _)))) ⟨rfl, rfl, rfl, rfl, trivial⟩ | exact csin_new (.tail _ (.tail _ (.tail _ (.tail _ (.head _))))) ⟨rfl, rfl, rfl, rfl, trivial⟩ | exact csin_new (.tail _ (.tail _ (.tail _ (.tail _ (.tail _ (.head _)))))) ⟨rfl, rfl, rfl, rfl, trivial⟩ | exact csin_new (.tail _ (.tail _ (.tail _ (.tail _ (.tail _ (.tail _ (.head _))))))) ⟨rfl, rfl, rfl, rfl, trivial⟩ | exact csin_new (.tail _ (.tail _ (.tail _ (.tail _ (.tail _ (.tail _ (.tail _ (.head _)))))))) ⟨rfl, rfl, rfl, rfl, trivial⟩)) ?_
  refine At.callV rfl rfl rfl (.cons (.t rfl) .nil) (fun hg => c_IsConf) (by simp) .all ?_
  first | refine At.e rfl rfl rfl rfl .all (R.as (R.neq (.t rfl) .c) (fun _ => congrArg Value.bool (congrArg Bool.not (decide_eq_true (by first | rfl | omega))))) ?_ | refine At.e rfl rfl rfl rfl .all (R.as (R.neq (.t rfl) .c) (fun _ => congrArg Value.bool (congrArg Bool.not (decide_eq_false (by omega))))) ?_ | refine At.e rfl rfl rfl rfl .all (R.neq (.t rfl) .c) ?_
  refine At.nil ?_
  refine At.tN ?_
  first | refine At.condD (.t rfl) (fun c2 => ?_) (fun c2 => ?_) | refine At.condN (.t rfl) (fun c2 => ?_) (fun c2 => ?_) | refine At.cond (.t rfl) (fun c2 => ?_) (fun c2 => ?_)
  · skip
    refine At.seq ?_
    refine At.plain [(false, 0)] rfl ?_
    refine At.e rfl rfl rfl rfl .all (R.assign .c) ?_
    refine At.nil ?_
    refine At.tN ?_
    refine At.ret ?_
    refine At.tR ?_
    exact At.final rfl (.t rfl) (List.nil_sublist _) (⟨congrArg Value.bool (by first | rfl | (simp; omega)), rfl, rfl⟩)
  · have hz := isConf_zero c2; obtain ⟨g1, g2, g3, g4, g5, g6, g7, g8⟩ := grows_plain a b m (k % 300) (by omega) (by omega) (by omega) (by omega) (by omega) (by omega)
    refine At.skip ?_
    refine At.tN ?_
    refine At.seq ?_
    refine At.plain [(false, 0), (false, 1), (false, 2), (false, 3), (false, 4), (false, 5), (false, 6)] rfl ?_
    refine At.e rfl rfl rfl rfl .all (R.move (.t rfl)) ?_
    first | refine At.e rfl rfl rfl rfl .all (R.as (R.conv Try.underlying24 Try.underlying3 (.t rfl)) (fun _ => congrArg (Value.int .i64) (IntWalk.i64_in _ (by omega)))) ?_ | refine At.e rfl rfl rfl rfl .all (R.conv Try.underlying24 Try.underlying3 (.t rfl)) ?_
    refine At.e rfl rfl rfl rfl .all (R.move (.t rfl)) ?_
    first | refine At.e rfl rfl rfl rfl .all (R.remI (.t rfl) .c (fun hg => by first | omega | (simp at hg; omega))) ?_ | refine At.e rfl rfl rfl rfl .all (R.rem (.t rfl) .c (fun hg => by first | omega | (simp at hg; omega))) ?_
    first | refine At.e rfl rfl rfl rfl .all (R.as (R.conv Try.underlying24 Try.underlying3 (.t rfl)) (fun _ => congrArg (Value.int .i64) (IntWalk.i64_in _ (by omega)))) ?_ | refine At.e rfl rfl rfl rfl .all (R.conv Try.underlying24 Try.underlying3 (.t rfl)) ?_
    refine At.e rfl rfl rfl rfl .all (R.assign (.t rfl)) ?_
    refine At.e rfl rfl rfl rfl .all (R.assign (.t rfl)) ?_
    refine At.nil ?_
    refine At.tN ?_
    refine At.seq ?_
    refine At.drawK [(true, 0), (true, 1), (true, 3), (true, 4), (true, 5), (false, 2), (false, 6), (true, 7), (false, 8), (true, 9), (true, 10)] (by kernel_rfl) (by kernel_rfl) ?_
    refine At.s rfl rfl rfl rfl (Cl.kept fun _ h => h) (R.loadAgg (vs := [_, _, _, _]) Try.underlying23 rfl sz_23 (.t rfl) (by first | exact csin_kept (.head _) ⟨rfl, rfl, rfl, rfl, trivial⟩ | exact csin_kept (.tail _ (.head _)) ⟨rfl, rfl, rfl, rfl, trivial⟩ | exact csin_kept (.tail _ (.tail _ (.head _))) ⟨rfl, rfl, rfl, rfl, trivial⟩ | exact csin_kept (.tail _ (.tail _ (.tail _ (.head _)))) ⟨rfl, rfl, rfl, rfl, trivial⟩ | exact csin_kept (.tail _ (.tail _ (.tail _ (.tail _ (.head _))))) ⟨rfl, rfl, rfl, rfl, trivial⟩ | exact csin_kept (.tail _ (.tail _ (.tail _ (.tail _ (.tail _ (.head _)))))) ⟨rfl, rfl, rfl, rfl, trivial⟩ | exact csin_kept (.tail _ (.tail _ (.tail _ (.tail _ (.tail _ (.tail _ (.head _))))))) ⟨rfl, rfl, rfl, rfl, trivial⟩ | exact csin_kept (.tail _ (.tail _ (.tail _ (.tail _ (.tail _ (.tail _ (.tail _ (.head _)))))))) ⟨rfl, rfl, rfl, rfl, trivial⟩)) ?_
    refine At.s rfl rfl rfl rfl (Cl.kept fun _ h => h) (R.move (.t rfl)) ?_
    refine At.s rfl rfl rfl rfl (Cl.kept fun _ h => h) (R.loadAgg (vs := [_, _, _, _]) Try.underlying23 rfl sz_23 (.t rfl) (by first | exact csin_kept (.head _) ⟨rfl, rfl, rfl, rfl, trivial⟩ | exact csin_kept (.tail _ (.head _)) ⟨rfl, rfl, rfl, rfl, trivial⟩ | exact csin_kept (.tail _ (.tail _ (.head _))) ⟨rfl, rfl, rfl, rfl, trivial⟩ | exact csin_kept (.tail _ (.tail _ (.tail _ (.head _)))) ⟨rfl, rfl, rfl, rfl, trivial⟩ | exact csin_kept (.tail _ (.tail _ (.tail _ (.tail _ (.head _))))) ⟨rfl, rfl, rfl, rfl, trivial⟩ | exact csin_kept (.tail _ (.tail _ (.tail _ (.tail _ (.tail _ (.head _)))))) ⟨rfl, rfl, rfl, rfl, trivial⟩ | exact csin_kept (.tail _ (.tail _ (.tail _ (.tail _ (.tail _ (.tail _ (.head _))))))) ⟨rfl, rfl, rfl, rfl, trivial⟩ | exact csin_kept (.tail _ (.tail _ (.tail _ (.tail _ (.tail _ (.tail _ (.tail _ (.head _)))))))) ⟨rfl, rfl, rfl, rfl, trivial⟩)) ?_
    refine At.s rfl rfl rfl rfl (Cl.kept fun _ h => h) (R.move (.t rfl)) ?_
    refine At.s rfl rfl rfl rfl (Cl.kept fun _ h => h) (R.loadAgg (vs := [_, _, _, _]) Try.underlying23 rfl sz_23 (.t rfl) (by first | exact csin_kept (.head _) ⟨rfl, rfl, rfl, rfl, trivial⟩ | exact csin_kept (.tail _ (.head _)) ⟨rfl, rfl, rfl, rfl, trivial⟩ | exact csin_kept (.tail _ (.tail _ (.head _))) ⟨rfl, rfl, rfl, rfl, trivial⟩ | exact csin_kept (.tail _ (.tail _ (.tail _ (.head _)))) ⟨rfl, rfl, rfl, rfl, trivial⟩ | exact csin_kept (.tail _ (.tail _ (.tail _ (.tail _ (.head _))))) ⟨rfl, rfl, rfl, rfl, trivial⟩ | exact csin_kept (.tail _ (.tail _ (.tail _ (.tail _ (.tail _ (.head _)))))) ⟨rfl, rfl, rfl, rfl, trivial⟩ | exact csin_kept (.tail _ (.tail _ (.tail _ (.tail _ (.tail _ (.tail _ (.head _))))))) ⟨rfl, rfl, rfl, rfl, trivial⟩ | exact csin_kept (.tail _ (.tail _ (.tail _ (.tail _ (.tail _ (.tail _ (.tail _ (.head _)))))))) ⟨rfl, rfl, rfl, rfl, trivial⟩)) ?_
    refine At.callV rfl rfl rfl (.cons (.t rfl) (.cons (.t rfl) .nil)) (fun hg => c_Chunks (by omega) (by omega) (by omega) (by omega) (by omega) (by omega)) (by simp) (Cl.kept fun _ h => h) ?_
    refine At.callV rfl rfl rfl (.cons (.t rfl) .nil) (fun hg => c_rSize (by omega) (by omega)) (by simp) (Cl.kept fun _ h => h) ?_
    first | refine At.s rfl rfl rfl rfl (Cl.kept fun _ h => h) (R.addI (.t rfl) (.t rfl) (fun hg => by first | omega | (simp at hg; omega))) ?_ | refine At.s rfl rfl rfl rfl (Cl.kept fun _ h => h) (R.add (.t rfl) (.t rfl)) ?_
    refine At.callV rfl rfl rfl (.cons (.t rfl) (.cons (.t rfl) .nil)) (fun hg => c_Chunks (by omega) (by omega) (by omega) (by omega) (by omega) (by omega)) (by simp) (Cl.kept fun _ h => h) ?_
    refine At.s rfl rfl rfl rfl (Cl.kept fun _ h => h) (R.assign (.t rfl)) ?_
    refine At.s rfl rfl rfl rfl (Cl.kept fun _ h => h) (R.assign (.t rfl)) ?_
    refine At.nil ?_
    refine At.tN ?_
    refine At.seq ?_
    refine At.drawK [(true, 0), (true, 1), (true, 2), (true, 3), (true, 4), (true, 5), (true, 6), (true, 7), (true, 8), (true, 9), (false, 10), (true, 11), (true, 12), (true, 13), (true, 14), (true, 15), (true, 16), (true, 17), (true, 18), (true, 19), (true, 20), (true, 21), (true, 22), (true, 23), (true, 24), (true, 25), (true, 26), (true, 27), (true, 28), (true, 30), (true, 31), (false, 29), (false, 32), (true, 33), (true, 34), (true, 35), (true, 36), (true, 37), (true, 38), (true, 39), (true, 41), (true, 42), (true, 45), (true, 46), (true, 47), (false, 40), (false, 43), (true, 44), (true, 48), (true, 49), (true, 50), (true, 51), (true, 52), (true, 53), (true, 54), (true, 56), (true, 57), (true, 58), (false, 55), (false, 59), (true, 60), (true, 61), (true, 62), (true, 63), (true, 64), (true, 65), (true, 67), (true, 68), (false, 66), (false, 69), (true, 70), (true, 71), (true, 72)] (by kernel_rfl) (by kernel_rfl) ?_
    refine At.s rfl rfl rfl rfl (Cl.kept fun _ h => h) (R.move (.t rfl)) ?_
    first | refine At.s rfl rfl rfl rfl (Cl.kept fun _ h => h) (R.as (R.geq (.t rfl) .c) (fun _ => congrArg Value.bool (decide_eq_true (by omega)))) ?_ | refine At.s rfl rfl rfl rfl (Cl.kept fun _ h => h) (R.as (R.geq (.t rfl) .c) (fun _ => congrArg Value.bool (decide_eq_false (by omega)))) ?_ | refine At.s rfl rfl rfl rfl (Cl.kept fun _ h => h) (R.geq (.t rfl) .c) ?_
    refine At.s rfl rfl rfl rfl (Cl.kept fun _ h => h) (R.move (.t rfl)) ?_
    first | refine At.sF rfl rfl rfl rfl (Cl.kept fun _ h => h) ?_ | refine At.s rfl rfl rfl rfl (Cl.kept fun _ h => h) (R.move (by first | exact .t rfl | exact .s rfl | exact .i rfl (by simp_all))) ?_
    first | refine At.sF rfl rfl rfl rfl (Cl.kept fun _ h => h) ?_ | refine At.s rfl rfl rfl rfl (Cl.kept fun _ h => h) (R.move (by first | exact .t rfl | exact .s rfl | exact .i rfl (by simp_all))) ?_
    first | refine At.sF rfl rfl rfl rfl (Cl.kept fun _ h => h) ?_ | refine At.s rfl rfl rfl rfl (Cl.kept fun _ h => h) (R.addI (by first | exact .t rfl | exact .s rfl | exact .i rfl (by simp_all)) .c (fun hg => by first | omega | (simp at hg; omega))) ?_ | refine At.s rfl rfl rfl rfl (Cl.kept fun _ h => h) (R.add (by first | exact .t rfl | exact .s rfl | exact .i rfl (by simp_all)) .c) ?_
    first | refine At.sF rfl rfl rfl rfl (Cl.kept fun _ h => h) ?_ | refine At.s rfl rfl rfl rfl (Cl.kept fun _ h => h) (R.eql (by first | exact .t rfl | exact .s rfl | exact .i rfl (by simp_all)) (by first | exact .t rfl | exact .s rfl | exact .i rfl (by simp_all))) ?_
    first | refine At.sF rfl rfl rfl rfl (Cl.kept fun _ h => h) ?_ | refine At.s rfl rfl rfl rfl (Cl.kept fun _ h => h) (R.move (by first | exact .t rfl | exact .s rfl | exact .i rfl (by simp_all))) ?_
    first | refine At.sF rfl rfl rfl rfl (Cl.kept fun _ h => h) ?_ | refine At.s rfl rfl rfl rfl (Cl.kept fun _ h => h) (R.move (by first | exact .t rfl | exact .s rfl | exact .i rfl (by simp_all))) ?_
    first | refine At.sF rfl rfl rfl rfl (Cl.kept fun _ h => h) ?_ | refine At.s rfl rfl rfl rfl (Cl.kept fun _ h => h) (R.loadAgg (vs := [_, _, _, _]) Try.underlying23 rfl sz_23 (by first | exact .t rfl | exact .s rfl | exact .i rfl (by simp_all)) (by first | exact csin_kept (.head _) ⟨rfl, rfl, rfl, rfl, trivial⟩ | exact csin_kept (.tail _ (.head _)) ⟨rfl, rfl, rfl, rfl, trivial⟩ | exact csin_kept (.tail _ (.tail _ (.head _))) ⟨rfl, rfl, rfl, rfl, trivial⟩ | exact csin_kept (.tail _ (.tail _ (.tail _ (.head _)))) ⟨rfl, rfl, rfl, rfl, trivial⟩ | exact csin_kept (.tail _ (.tail _ (.tail _ (.tail _ (.head _))))) ⟨rfl, rfl, rfl, rfl, trivial⟩ | exact csin_kept (.tail _ (.tail _ (.tail _ (.tail _ (.tail _ (.head _)))))) ⟨rfl, rfl, rfl, rfl, trivial⟩ | exact csin_kept (.tail _ (.tail _ (.tail _ (.tail _ (.tail _ (.tail _ (.head _))))))) ⟨rfl, rfl, rfl, rfl, trivial⟩ | exact csin_kept (.tail _ (.tail _ (.tail _ (.tail _ (.tail _ (.tail _ (.tail _ (.head _)))))))) ⟨rfl, rfl, rfl, rfl, trivial⟩)) ?_
    first | refine At.eF rfl rfl rfl rfl (Cl.kept fun _ h => h) ?_ | refine At.callV rfl rfl rfl (.cons (by first | exact .t rfl | exact .s rfl | exact .i rfl (by simp_all)) .nil) (fun hg => c_rTop (by omega) (by omega) (by omega) (by omega)) (by simp) (Cl.kept fun _ h => h) ?_
    first | refine At.sF rfl rfl rfl rfl (Cl.kept fun _ h => h) ?_ | refine At.s rfl rfl rfl rfl (Cl.kept fun _ h => h) (R.lss (by first | exact .t rfl | exact .s rfl | exact .i rfl (by simp_all)) (by first | exact .t rfl | exact .s rfl | exact .i rfl (by simp_all))) ?_
    first | refine At.sF rfl rfl rfl rfl (Cl.kept fun _ h => h) ?_ | refine At.s rfl rfl rfl rfl (Cl.kept fun _ h => h) (R.move (by first | exact .t rfl | exact .s rfl | exact .i rfl (by simp_all))) ?_
    first | refine At.sF rfl rfl rfl rfl (Cl.kept fun _ h => h) ?_ | refine At.s rfl rfl rfl rfl (Cl.kept fun _ h => h) (R.move (by first | exact .t rfl | exact .s rfl | exact .i rfl (by simp_all))) ?_
    first | refine At.sF rfl rfl rfl rfl (Cl.kept fun _ h => h) ?_ | refine At.s rfl rfl rfl rfl (Cl.kept fun _ h => h) (R.move (by first | exact .t rfl | exact .s rfl | exact .i rfl (by simp_all))) ?_
    first | refine At.sF rfl rfl rfl rfl (Cl.kept fun _ h => h) ?_ | refine At.s rfl rfl rfl rfl (Cl.kept fun _ h => h) (R.eql (by first | exact .t rfl | exact .s rfl | exact .i rfl (by simp_all)) (by first | exact .t rfl | exact .s rfl | exact .i rfl (by simp_all))) ?_
    first | refine At.sF rfl rfl rfl rfl (Cl.kept fun _ h => h) ?_ | refine At.s rfl rfl rfl rfl (Cl.kept fun _ h => h) (R.move (by first | exact .t rfl | exact .s rfl | exact .i rfl (by simp_all))) ?_
    first | refine At.sF rfl rfl rfl rfl (Cl.kept fun _ h => h) ?_ | refine At.s rfl rfl rfl rfl (Cl.kept fun _ h => h) (R.move (by first | exact .t rfl | exact .s rfl | exact .i rfl (by simp_all))) ?_
    first | refine At.sF rfl rfl rfl rfl (Cl.kept fun _ h => h) ?_ | refine At.s rfl rfl rfl rfl (Cl.kept fun _ h => h) (R.move (by first | exact .t rfl | exact .s rfl | exact .i rfl (by simp_all))) ?_
    first | refine At.sF rfl rfl rfl rfl (Cl.kept fun _ h => h) ?_ | refine At.s rfl rfl rfl rfl (Cl.kept fun _ h => h) (R.addI (by first | exact .t rfl | exact .s rfl | exact .i rfl (by simp_all)) .c (fun hg => by first | omega | (simp at hg; omega))) ?_ | refine At.s rfl rfl rfl rfl (Cl.kept fun _ h => h) (R.add (by first | exact .t rfl | exact .s rfl | exact .i rfl (by simp_all)) .c) ?_
    first | refine At.sF rfl rfl rfl rfl (Cl.kept fun _ h => h) ?_ | refine At.s rfl rfl rfl rfl (Cl.kept fun _ h => h) (R.eql (by first | exact .t rfl | exact .s rfl | exact .i rfl (by simp_all)) (by first | exact .t rfl | exact .s rfl | exact .i rfl (by simp_all))) ?_
    first | refine At.sF rfl rfl rfl rfl (Cl.kept fun _ h => h) ?_ | refine At.s rfl rfl rfl rfl (Cl.kept fun _ h => h) (R.pickT (by first | exact .t rfl | exact .s rfl | exact .i rfl (by simp_all)) .c) ?_ | refine At.s rfl rfl rfl rfl (Cl.kept fun _ h => h) (R.pickF (by first | exact .t rfl | exact .s rfl | exact .i rfl (by simp_all)) (by first | exact .t rfl | exact .s rfl | exact .i rfl (by simp_all))) ?_ | refine At.s rfl rfl rfl rfl (Cl.kept fun _ h => h) (R.pickOr (by first | exact .t rfl | exact .s rfl | exact .i rfl (by simp_all)) rfl (by simp_all)) ?_
    first | refine At.sF rfl rfl rfl rfl (Cl.kept fun _ h => h) ?_ | refine At.s rfl rfl rfl rfl (Cl.kept fun _ h => h) (R.pickT (by first | exact .t rfl | exact .s rfl | exact .i rfl (by simp_all)) (by first | exact .t rfl | exact .s rfl | exact .i rfl (by simp_all))) ?_ | refine At.s rfl rfl rfl rfl (Cl.kept fun _ h => h) (R.pickF (by first | exact .t rfl | exact .s rfl | exact .i rfl (by simp_all)) .c) ?_ | refine At.s rfl rfl rfl rfl (Cl.kept fun _ h => h) (R.pickAnd (by first | exact .t rfl | exact .s rfl | exact .i rfl (by simp_all)) rfl (by simp_all)) ?_
    first | refine At.sF rfl rfl rfl rfl (Cl.kept fun _ h => h) ?_ | refine At.s rfl rfl rfl rfl (Cl.kept fun _ h => h) (R.pickT (by first | exact .t rfl | exact .s rfl | exact .i rfl (by simp_all)) .c) ?_ | refine At.s rfl rfl rfl rfl (Cl.kept fun _ h => h) (R.pickF (by first | exact .t rfl | exact .s rfl | exact .i rfl (by simp_all)) (by first | exact .t rfl | exact .s rfl | exact .i rfl (by simp_all))) ?_ | refine At.s rfl rfl rfl rfl (Cl.kept fun _ h => h) (R.pickOr (by first | exact .t rfl | exact .s rfl | exact .i rfl (by simp_all)) rfl (by simp_all)) ?_
    first | refine At.s rfl rfl rfl rfl (Cl.kept fun _ h => h) (R.pickT (.t rfl) (.t rfl)) ?_ | refine At.s rfl rfl rfl rfl (Cl.kept fun _ h => h) (R.pickF (.t rfl) .c) ?_ | refine At.s rfl rfl rfl rfl (Cl.kept fun _ h => h) (R.pickAnd (.t rfl) rfl (by simp_all)) ?_
    refine At.s rfl rfl rfl rfl (Cl.kept fun _ h => h) (R.move (.t rfl)) ?_
    first | refine At.sF rfl rfl rfl rfl (Cl.kept fun _ h => h) ?_ | refine At.s rfl rfl rfl rfl (Cl.kept fun _ h => h) (R.loadAgg (vs := [_, _, _, _]) Try.underlying23 rfl sz_23 (by first | exact .t rfl | exact .s rfl | exact .i rfl (by simp_all)) (by first | exact csin_kept (.head _) ⟨rfl, rfl, rfl, rfl, trivial⟩ | exact csin_kept (.tail _ (.head _)) ⟨rfl, rfl, rfl, rfl, trivial⟩ | exact csin_kept (.tail _ (.tail _ (.head _))) ⟨rfl, rfl, rfl, rfl, trivial⟩ | exact csin_kept (.tail _ (.tail _ (.tail _ (.head _)))) ⟨rfl, rfl, rfl, rfl, trivial⟩ | exact csin_kept (.tail _ (.tail _ (.tail _ (.tail _ (.head _))))) ⟨rfl, rfl, rfl, rfl, trivial⟩ | exact csin_kept (.tail _ (.tail _ (.tail _ (.tail _ (.tail _ (.head _)))))) ⟨rfl, rfl, rfl, rfl, trivial⟩ | exact csin_kept (.tail _ (.tail _ (.tail _ (.tail _ (.tail _ (.tail _ (.head _))))))) ⟨rfl, rfl, rfl, rfl, trivial⟩ | exact csin_kept (.tail _ (.tail _ (.tail _ (.tail _ (.tail _ (.tail _ (.tail _ (.head _)))))))) ⟨rfl, rfl, rfl, rfl, trivial⟩)) ?_
    first | refine At.sF rfl rfl rfl rfl (Cl.kept fun _ h => h) ?_ | refine At.s rfl rfl rfl rfl (Cl.kept fun _ h => h) (R.move (by first | exact .t rfl | exact .s rfl | exact .i rfl (by simp_all))) ?_
    first | refine At.sF rfl rfl rfl rfl (Cl.kept fun _ h => h) ?_ | refine At.s rfl rfl rfl rfl (Cl.kept fun _ h => h) (R.addI (by first | exact .t rfl | exact .s rfl | exact .i rfl (by simp_all)) .c (fun hg => by first | omega | (simp at hg; omega))) ?_ | refine At.s rfl rfl rfl rfl (Cl.kept fun _ h => h) (R.add (by first | exact .t rfl | exact .s rfl | exact .i rfl (by simp_all)) .c) ?_
    first | refine At.sF rfl rfl rfl rfl (Cl.kept fun _ h => h) ?_ | refine At.s rfl rfl rfl rfl (Cl.kept fun _ h => h) (R.loadAgg (vs := [_, _, _, _]) Try.underlying23 rfl sz_23 (by first | exact .t rfl | exact .s rfl | exact .i rfl (by simp_all)) (by first | exact csin_kept (.head _) ⟨rfl, rfl, rfl, rfl, trivial⟩ | exact csin_kept (.tail _ (.head _)) ⟨rfl, rfl, rfl, rfl, trivial⟩ | exact csin_kept (.tail _ (.tail _ (.head _))) ⟨rfl, rfl, rfl, rfl, trivial⟩ | exact csin_kept (.tail _ (.tail _ (.tail _ (.head _)))) ⟨rfl, rfl, rfl, rfl, trivial⟩ | exact csin_kept (.tail _ (.tail _ (.tail _ (.tail _ (.head _))))) ⟨rfl, rfl, rfl, rfl, trivial⟩ | exact csin_kept (.tail _ (.tail _ (.tail _ (.tail _ (.tail _ (.head _)))))) ⟨rfl, rfl, rfl, rfl, trivial⟩ | exact csin_kept (.tail _ (.tail _ (.tail _ (.tail _ (.tail _ (.tail _ (.head _))))))) ⟨rfl, rfl, rfl, rfl, trivial⟩ | exact csin_kept (.tail _ (.tail _ (.tail _ (.tail _ (.tail _ (.tail _ (.tail _ (.head _)))))))) ⟨rfl, rfl, rfl, rfl, trivial⟩)) ?_
    first | refine At.sF rfl rfl rfl rfl (Cl.kept fun _ h => h) ?_ | refine At.s rfl rfl rfl rfl (Cl.kept fun _ h => h) (R.move (by first | exact .t rfl | exact .s rfl | exact .i rfl (by simp_all))) ?_
    first | refine At.eF rfl rfl rfl rfl (Cl.kept fun _ h => h) ?_ | refine At.callV rfl rfl rfl (.cons (by first | exact .t rfl | exact .s rfl | exact .i rfl (by simp_all)) (.cons (by first | exact .t rfl | exact .s rfl | exact .i rfl (by simp_all)) .nil)) (fun hg => c_Get (by omega) (by omega) (by omega) (by omega)) (by simp) (Cl.kept fun _ h => h) ?_
    first | refine At.eF rfl rfl rfl rfl (Cl.kept fun _ h => h) ?_ | refine At.callV rfl rfl rfl (.cons (by first | exact .t rfl | exact .s rfl | exact .i rfl (by simp_all)) (.cons (by first | exact .t rfl | exact .s rfl | exact .i rfl (by simp_all)) .nil)) (fun hg => c_Get (by omega) (by omega) (by omega) (by omega)) (by simp) (Cl.kept fun _ h => h) ?_
    first | refine At.sF rfl rfl rfl rfl (Cl.kept fun _ h => h) ?_ | refine At.s rfl rfl rfl rfl (Cl.kept fun _ h => h) (R.addI (by first | exact .t rfl | exact .s rfl | exact .i rfl (by simp_all)) .c (fun hg => by first | omega | (simp at hg; omega))) ?_ | refine At.s rfl rfl rfl rfl (Cl.kept fun _ h => h) (R.add (by first | exact .t rfl | exact .s rfl | exact .i rfl (by simp_all)) .c) ?_
    first | refine At.sF rfl rfl rfl rfl (Cl.kept fun _ h => h) ?_ | refine At.s rfl rfl rfl rfl (Cl.kept fun _ h => h) (R.eql (by first | exact .t rfl | exact .s rfl | exact .i rfl (by simp_all)) (by first | exact .t rfl | exact .s rfl | exact .i rfl (by simp_all))) ?_
    first | refine At.s rfl rfl rfl rfl (Cl.kept fun _ h => h) (R.pickT (.t rfl) (.t rfl)) ?_ | refine At.s rfl rfl rfl rfl (Cl.kept fun _ h => h) (R.pickF (.t rfl) .c) ?_ | refine At.s rfl rfl rfl rfl (Cl.kept fun _ h => h) (R.pickAnd (.t rfl) rfl (by simp_all)) ?_
    refine At.s rfl rfl rfl rfl (Cl.kept fun _ h => h) (R.move (.t rfl)) ?_
    first | refine At.sF rfl rfl rfl rfl (Cl.kept fun _ h => h) ?_ | refine At.s rfl rfl rfl rfl (Cl.kept fun _ h => h) (R.loadAgg (vs := [_, _, _, _]) Try.underlying23 rfl sz_23 (by first | exact .t rfl | exact .s rfl | exact .i rfl (by simp_all)) (by first | exact csin_kept (.head _) ⟨rfl, rfl, rfl, rfl, trivial⟩ | exact csin_kept (.tail _ (.head _)) ⟨rfl, rfl, rfl, rfl, trivial⟩ | exact csin_kept (.tail _ (.tail _ (.head _))) ⟨rfl, rfl, rfl, rfl, trivial⟩ | exact csin_kept (.tail _ (.tail _ (.tail _ (.head _)))) ⟨rfl, rfl, rfl, rfl, trivial⟩ | exact csin_kept (.tail _ (.tail _ (.tail _ (.tail _ (.head _))))) ⟨rfl, rfl, rfl, rfl, trivial⟩ | exact csin_kept (.tail _ (.tail _ (.tail _ (.tail _ (.tail _ (.head _)))))) ⟨rfl, rfl, rfl, rfl, trivial⟩ | exact csin_kept (.tail _ (.tail _ (.tail _ (.tail _ (.tail _ (.tail _ (.head _))))))) ⟨rfl, rfl, rfl, rfl, trivial⟩ | exact csin_kept (.tail _ (.tail _ (.tail _ (.tail _ (.tail _ (.tail _ (.tail _ (.head _)))))))) ⟨rfl, rfl, rfl, rfl, trivial⟩)) ?_
    first | refine At.sF rfl rfl rfl rfl (Cl.kept fun _ h => h) ?_ | refine At.s rfl rfl rfl rfl (Cl.kept fun _ h => h) (R.move (by first | exact .t rfl | exact .s rfl | exact .i rfl (by simp_all))) ?_
    first | refine At.sF rfl rfl rfl rfl (Cl.kept fun _ h => h) ?_ | refine At.s rfl rfl rfl rfl (Cl.kept fun _ h => h) (R.addI (by first | exact .t rfl | exact .s rfl | exact .i rfl (by simp_all)) .c (fun hg => by first | omega | (simp at hg; omega))) ?_ | refine At.s rfl rfl rfl rfl (Cl.kept fun _ h => h) (R.add (by first | exact .t rfl | exact .s rfl | exact .i rfl (by simp_all)) .c) ?_
    first | refine At.sF rfl rfl rfl rfl (Cl.kept fun _ h => h) ?_ | refine At.s rfl rfl rfl rfl (Cl.kept fun _ h => h) (R.loadAgg (vs := [_, _, _, _]) Try.underlying23 rfl sz_23 (by first | exact .t rfl | exact .s rfl | exact .i rfl (by simp_all)) (by first | exact csin_kept (.head _) ⟨rfl, rfl, rfl, rfl, trivial⟩ | exact csin_kept (.tail _ (.head _)) ⟨rfl, rfl, rfl, rfl, trivial⟩ | exact csin_kept (.tail _ (.tail _ (.head _))) ⟨rfl, rfl, rfl, rfl, trivial⟩ | exact csin_kept (.tail _ (.tail _ (.tail _ (.head _)))) ⟨rfl, rfl, rfl, rfl, trivial⟩ | exact csin_kept (.tail _ (.tail _ (.tail _ (.tail _ (.head _))))) ⟨rfl, rfl, rfl, rfl, trivial⟩ | exact csin_kept (.tail _ (.tail _ (.tail _ (.tail _ (.tail _ (.head _)))))) ⟨rfl, rfl, rfl, rfl, trivial⟩ | exact csin_kept (.tail _ (.tail _ (.tail _ (.tail _ (.tail _ (.tail _ (.head _))))))) ⟨rfl, rfl, rfl, rfl, trivial⟩ | exact csin_kept (.tail _ (.tail _ (.tail _ (.tail _ (.tail _ (.tail _ (.tail _ (.head _)))))))) ⟨rfl, rfl, rfl, rfl, trivial⟩)) ?_
    first | refine At.sF rfl rfl rfl rfl (Cl.kept fun _ h => h) ?_ | refine At.s rfl rfl rfl rfl (Cl.kept fun _ h => h) (R.move (by first | exact .t rfl | exact .s rfl | exact .i rfl (by simp_all))) ?_
    first | refine At.sF rfl rfl rfl rfl (Cl.kept fun _ h => h) ?_ | refine At.s rfl rfl rfl rfl (Cl.kept fun _ h => h) (R.fieldAddr fo_23_1 (by first | exact .t rfl | exact .s rfl | exact .i rfl (by simp_all))) ?_
    first | refine At.sF rfl rfl rfl rfl (Cl.kept fun _ h => h) ?_ | refine At.s rfl rfl rfl rfl (Cl.kept fun _ h => h) (R.load Try.underlying3 rfl (by first | exact .t rfl | exact .s rfl | exact .i rfl (by simp_all)) (by first | exact cin_kept (.head _) rfl | exact cin_kept (.tail _ (.head _)) rfl | exact cin_kept (.tail _ (.tail _ (.head _))) rfl | exact cin_kept (.tail _ (.tail _ (.tail _ (.head _)))) rfl | exact cin_kept (.tail _ (.tail _ (.tail _ (.tail _ (.head _))))) rfl | exact cin_kept (.tail _ (.tail _ (.tail _ (.tail _ (.tail _ (.head _)))))) rfl | exact cin_kept (.tail _ (.tail _ (.tail _ (.tail _ (.tail _ (.tail _ (.head _))))))) rfl | exact cin_kept (.tail _ (.tail _ (.tail _ (.tail _ (.tail _ (.tail _ (.tail _ (.head _)))))))) rfl)) ?_
    first | refine At.sF rfl rfl rfl rfl (Cl.kept fun _ h => h) ?_ | refine At.s rfl rfl rfl rfl (Cl.kept fun _ h => h) (R.mulI .c (by first | exact .t rfl | exact .s rfl | exact .i rfl (by simp_all)) (fun hg => by first | omega | (simp at hg; omega))) ?_ | refine At.s rfl rfl rfl rfl (Cl.kept fun _ h => h) (R.mul .c (by first | exact .t rfl | exact .s rfl | exact .i rfl (by simp_all))) ?_
    first | refine At.eF rfl rfl rfl rfl (Cl.kept fun _ h => h) ?_ | refine At.callV rfl rfl rfl (.cons (by first | exact .t rfl | exact .s rfl | exact .i rfl (by simp_all)) (.cons (by first | exact .t rfl | exact .s rfl | exact .i rfl (by simp_all)) .nil)) (fun hg => c_Scan (by omega) (by omega) (by omega) (by omega)) (by simp) (Cl.kept fun _ h => h) ?_
    first | refine At.eF rfl rfl rfl rfl (Cl.kept fun _ h => h) ?_ | refine At.callV rfl rfl rfl (.cons (by first | exact .t rfl | exact .s rfl | exact .i rfl (by simp_all)) (.cons (by first | exact .t rfl | exact .s rfl | exact .i rfl (by simp_all)) .nil)) (fun hg => c_Scan (by omega) (by omega) (by omega) (by omega)) (by simp) (Cl.kept fun _ h => h) ?_
    first | refine At.sF rfl rfl rfl rfl (Cl.kept fun _ h => h) ?_ | refine At.s rfl rfl rfl rfl (Cl.kept fun _ h => h) (R.addI (by first | exact .t rfl | exact .s rfl | exact .i rfl (by simp_all)) .c (fun hg => by first | omega | (simp at hg; omega))) ?_ | refine At.s rfl rfl rfl rfl (Cl.kept fun _ h => h) (R.add (by first | exact .t rfl | exact .s rfl | exact .i rfl (by simp_all)) .c) ?_
    first | refine At.sF rfl rfl rfl rfl (Cl.kept fun _ h => h) ?_ | refine At.s rfl rfl rfl rfl (Cl.kept fun _ h => h) (R.addI (by first | exact .t rfl | exact .s rfl | exact .i rfl (by simp_all)) (by first | exact .t rfl | exact .s rfl | exact .i rfl (by simp_all)) (fun hg => by first | omega | (simp at hg; omega))) ?_ | refine At.s rfl rfl rfl rfl (Cl.kept fun _ h => h) (R.add (by first | exact .t rfl | exact .s rfl | exact .i rfl (by simp_all)) (by first | exact .t rfl | exact .s rfl | exact .i rfl (by simp_all))) ?_
    first | refine At.sF rfl rfl rfl rfl (Cl.kept fun _ h => h) ?_ | refine At.s rfl rfl rfl rfl (Cl.kept fun _ h => h) (R.eql (by first | exact .t rfl | exact .s rfl | exact .i rfl (by simp_all)) (by first | exact .t rfl | exact .s rfl | exact .i rfl (by simp_all))) ?_
    first | refine At.s rfl rfl rfl rfl (Cl.kept fun _ h => h) (R.pickT (.t rfl) (.t rfl)) ?_ | refine At.s rfl rfl rfl rfl (Cl.kept fun _ h => h) (R.pickF (.t rfl) .c) ?_ | refine At.s rfl rfl rfl rfl (Cl.kept fun _ h => h) (R.pickAnd (.t rfl) rfl (by simp_all)) ?_
    refine At.s rfl rfl rfl rfl (Cl.kept fun _ h => h) (R.move (.t rfl)) ?_
    first | refine At.sF rfl rfl rfl rfl (Cl.kept fun _ h => h) ?_ | refine At.s rfl rfl rfl rfl (Cl.kept fun _ h => h) (R.loadAgg (vs := [_, _, _, _]) Try.underlying23 rfl sz_23 (by first | exact .t rfl | exact .s rfl | exact .i rfl (by simp_all)) (by first | exact csin_kept (.head _) ⟨rfl, rfl, rfl, rfl, trivial⟩ | exact csin_kept (.tail _ (.head _)) ⟨rfl, rfl, rfl, rfl, trivial⟩ | exact csin_kept (.tail _ (.tail _ (.head _))) ⟨rfl, rfl, rfl, rfl, trivial⟩ | exact csin_kept (.tail _ (.tail _ (.tail _ (.head _)))) ⟨rfl, rfl, rfl, rfl, trivial⟩ | exact csin_kept (.tail _ (.tail _ (.tail _ (.tail _ (.head _))))) ⟨rfl, rfl, rfl, rfl, trivial⟩ | exact csin_kept (.tail _ (.tail _ (.tail _ (.tail _ (.tail _ (.head _)))))) ⟨rfl, rfl, rfl, rfl, trivial⟩ | exact csin_kept (.tail _ (.tail _ (.tail _ (.tail _ (.tail _ (.tail _ (.head _))))))) ⟨rfl, rfl, rfl, rfl, trivial⟩ | exact csin_kept (.tail _ (.tail _ (.tail _ (.tail _ (.tail _ (.tail _ (.tail _ (.head _)))))))) ⟨rfl, rfl, rfl, rfl, trivial⟩)) ?_
    first | refine At.sF rfl rfl rfl rfl (Cl.kept fun _ h => h) ?_ | refine At.s rfl rfl rfl rfl (Cl.kept fun _ h => h) (R.move (by first | exact .t rfl | exact .s rfl | exact .i rfl (by simp_all))) ?_
    first | refine At.sF rfl rfl rfl rfl (Cl.kept fun _ h => h) ?_ | refine At.s rfl rfl rfl rfl (Cl.kept fun _ h => h) (R.max2 .c (by first | exact .t rfl | exact .s rfl | exact .i rfl (by simp_all))) ?_
    first | refine At.sF rfl rfl rfl rfl (Cl.kept fun _ h => h) ?_ | refine At.s rfl rfl rfl rfl (Cl.kept fun _ h => h) (R.loadAgg (vs := [_, _, _, _]) Try.underlying23 rfl sz_23 (by first | exact .t rfl | exact .s rfl | exact .i rfl (by simp_all)) (by first | exact csin_kept (.head _) ⟨rfl, rfl, rfl, rfl, trivial⟩ | exact csin_kept (.tail _ (.head _)) ⟨rfl, rfl, rfl, rfl, trivial⟩ | exact csin_kept (.tail _ (.tail _ (.head _))) ⟨rfl, rfl, rfl, rfl, trivial⟩ | exact csin_kept (.tail _ (.tail _ (.tail _ (.head _)))) ⟨rfl, rfl, rfl, rfl, trivial⟩ | exact csin_kept (.tail _ (.tail _ (.tail _ (.tail _ (.head _))))) ⟨rfl, rfl, rfl, rfl, trivial⟩ | exact csin_kept (.tail _ (.tail _ (.tail _ (.tail _ (.tail _ (.head _)))))) ⟨rfl, rfl, rfl, rfl, trivial⟩ | exact csin_kept (.tail _ (.tail _ (.tail _ (.tail _ (.tail _ (.tail _ (.head _))))))) ⟨rfl, rfl, rfl, rfl, trivial⟩ | exact csin_kept (.tail _ (.tail _ (.tail _ (.tail _ (.tail _ (.tail _ (.tail _ (.head _)))))))) ⟨rfl, rfl, rfl, rfl, trivial⟩)) ?_
    first | refine At.sF rfl rfl rfl rfl (Cl.kept fun _ h => h) ?_ | refine At.s rfl rfl rfl rfl (Cl.kept fun _ h => h) (R.move (by first | exact .t rfl | exact .s rfl | exact .i rfl (by simp_all))) ?_
    first | refine At.sF rfl rfl rfl rfl (Cl.kept fun _ h => h) ?_ | refine At.s rfl rfl rfl rfl (Cl.kept fun _ h => h) (R.max2 .c (by first | exact .t rfl | exact .s rfl | exact .i rfl (by simp_all))) ?_
    first | refine At.eF rfl rfl rfl rfl (Cl.kept fun _ h => h) ?_ | refine At.callV rfl rfl rfl (.cons (by first | exact .t rfl | exact .s rfl | exact .i rfl (by simp_all)) (.cons (by first | exact .t rfl | exact .s rfl | exact .i rfl (by simp_all)) .nil)) (fun hg => c_Scan (by omega) (by omega) (by omega) (by omega)) (by simp) (Cl.kept fun _ h => h) ?_
    first | refine At.eF rfl rfl rfl rfl (Cl.kept fun _ h => h) ?_ | refine At.callV rfl rfl rfl (.cons (by first | exact .t rfl | exact .s rfl | exact .i rfl (by simp_all)) (.cons (by first | exact .t rfl | exact .s rfl | exact .i rfl (by simp_all)) .nil)) (fun hg => c_Get (by omega) (by omega) (by omega) (by omega)) (by simp) (Cl.kept fun _ h => h) ?_
    first | refine At.sF rfl rfl rfl rfl (Cl.kept fun _ h => h) ?_ | refine At.s rfl rfl rfl rfl (Cl.kept fun _ h => h) (R.gtr (by first | exact .t rfl | exact .s rfl | exact .i rfl (by simp_all)) (by first | exact .t rfl | exact .s rfl | exact .i rfl (by simp_all))) ?_
    first | refine At.s rfl rfl rfl rfl (Cl.kept fun _ h => h) (R.pickT (.t rfl) (.t rfl)) ?_ | refine At.s rfl rfl rfl rfl (Cl.kept fun _ h => h) (R.pickF (.t rfl) .c) ?_ | refine At.s rfl rfl rfl rfl (Cl.kept fun _ h => h) (R.pickAnd (.t rfl) rfl (by simp_all)) ?_
    refine At.s rfl rfl rfl rfl (Cl.kept fun _ h => h) (R.move (.t rfl)) ?_
    first | refine At.sF rfl rfl rfl rfl (Cl.kept fun _ h => h) ?_ | refine At.s rfl rfl rfl rfl (Cl.kept fun _ h => h) (R.loadAgg (vs := [_, _, _, _]) Try.underlying23 rfl sz_23 (by first | exact .t rfl | exact .s rfl | exact .i rfl (by simp_all)) (by first | exact csin_kept (.head _) ⟨rfl, rfl, rfl, rfl, trivial⟩ | exact csin_kept (.tail _ (.head _)) ⟨rfl, rfl, rfl, rfl, trivial⟩ | exact csin_kept (.tail _ (.tail _ (.head _))) ⟨rfl, rfl, rfl, rfl, trivial⟩ | exact csin_kept (.tail _ (.tail _ (.tail _ (.head _)))) ⟨rfl, rfl, rfl, rfl, trivial⟩ | exact csin_kept (.tail _ (.tail _ (.tail _ (.tail _ (.head _))))) ⟨rfl, rfl, rfl, rfl, trivial⟩ | exact csin_kept (.tail _ (.tail _ (.tail _ (.tail _ (.tail _ (.head _)))))) ⟨rfl, rfl, rfl, rfl, trivial⟩ | exact csin_kept (.tail _ (.tail _ (.tail _ (.tail _ (.tail _ (.tail _ (.head _))))))) ⟨rfl, rfl, rfl, rfl, trivial⟩ | exact csin_kept (.tail _ (.tail _ (.tail _ (.tail _ (.tail _ (.tail _ (.tail _ (.head _)))))))) ⟨rfl, rfl, rfl, rfl, trivial⟩)) ?_
    first | refine At.sF rfl rfl rfl rfl (Cl.kept fun _ h => h) ?_ | refine At.s rfl rfl rfl rfl (Cl.kept fun _ h => h) (R.move (by first | exact .t rfl | exact .s rfl | exact .i rfl (by simp_all))) ?_
    first | refine At.sF rfl rfl rfl rfl (Cl.kept fun _ h => h) ?_ | refine At.s rfl rfl rfl rfl (Cl.kept fun _ h => h) (R.addI (by first | exact .t rfl | exact .s rfl | exact .i rfl (by simp_all)) .c (fun hg => by first | omega | (simp at hg; omega))) ?_ | refine At.s rfl rfl rfl rfl (Cl.kept fun _ h => h) (R.add (by first | exact .t rfl | exact .s rfl | exact .i rfl (by simp_all)) .c) ?_
    first | refine At.sF rfl rfl rfl rfl (Cl.kept fun _ h => h) ?_ | refine At.s rfl rfl rfl rfl (Cl.kept fun _ h => h) (R.loadAgg (vs := [_, _, _, _]) Try.underlying23 rfl sz_23 (by first | exact .t rfl | exact .s rfl | exact .i rfl (by simp_all)) (by first | exact csin_kept (.head _) ⟨rfl, rfl, rfl, rfl, trivial⟩ | exact csin_kept (.tail _ (.head _)) ⟨rfl, rfl, rfl, rfl, trivial⟩ | exact csin_kept (.tail _ (.tail _ (.head _))) ⟨rfl, rfl, rfl, rfl, trivial⟩ | exact csin_kept (.tail _ (.tail _ (.tail _ (.head _)))) ⟨rfl, rfl, rfl, rfl, trivial⟩ | exact csin_kept (.tail _ (.tail _ (.tail _ (.tail _ (.head _))))) ⟨rfl, rfl, rfl, rfl, trivial⟩ | exact csin_kept (.tail _ (.tail _ (.tail _ (.tail _ (.tail _ (.head _)))))) ⟨rfl, rfl, rfl, rfl, trivial⟩ | exact csin_kept (.tail _ (.tail _ (.tail _ (.tail _ (.tail _ (.tail _ (.head _))))))) ⟨rfl, rfl, rfl, rfl, trivial⟩ | exact csin_kept (.tail _ (.tail _ (.tail _ (.tail _ (.tail _ (.tail _ (.tail _ (.head _)))))))) ⟨rfl, rfl, rfl, rfl, trivial⟩)) ?_
    first | refine At.sF rfl rfl rfl rfl (Cl.kept fun _ h => h) ?_ | refine At.s rfl rfl rfl rfl (Cl.kept fun _ h => h) (R.move (by first | exact .t rfl | exact .s rfl | exact .i rfl (by simp_all))) ?_
    first | refine At.eF rfl rfl rfl rfl (Cl.kept fun _ h => h) ?_ | refine At.callV rfl rfl rfl (.cons (by first | exact .t rfl | exact .s rfl | exact .i rfl (by simp_all)) (.cons (by first | exact .t rfl | exact .s rfl | exact .i rfl (by simp_all)) .nil)) (fun hg => c_Solo (by omega) (by omega) (by omega) (by omega) (by omega) (by omega)) (by simp) (Cl.kept fun _ h => h) ?_
    first | refine At.eF rfl rfl rfl rfl (Cl.kept fun _ h => h) ?_ | refine At.callV rfl rfl rfl (.cons (by first | exact .t rfl | exact .s rfl | exact .i rfl (by simp_all)) (.cons (by first | exact .t rfl | exact .s rfl | exact .i rfl (by simp_all)) .nil)) (fun hg => c_Solo (by omega) (by omega) (by omega) (by omega) (by omega) (by omega)) (by simp) (Cl.kept fun _ h => h) ?_
    first | refine At.sF rfl rfl rfl rfl (Cl.kept fun _ h => h) ?_ | refine At.s rfl rfl rfl rfl (Cl.kept fun _ h => h) (R.gtr (by first | exact .t rfl | exact .s rfl | exact .i rfl (by simp_all)) (by first | exact .t rfl | exact .s rfl | exact .i rfl (by simp_all))) ?_
    first | refine At.s rfl rfl rfl rfl (Cl.kept fun _ h => h) (R.pickT (.t rfl) (.t rfl)) ?_ | refine At.s rfl rfl rfl rfl (Cl.kept fun _ h => h) (R.pickF (.t rfl) .c) ?_ | refine At.s rfl rfl rfl rfl (Cl.kept fun _ h => h) (R.pickAnd (.t rfl) rfl (by simp_all)) ?_
    refine At.s rfl rfl rfl rfl (Cl.kept fun _ h => h) (R.assign (.t rfl)) ?_
    refine At.nil ?_
    refine At.tN ?_
    refine At.ret ?_
    exact At.final rfl (.t rfl) (List.nil_sublist _) (⟨congrArg Value.bool (by first | rfl | (simp; omega)), rfl, rfl⟩)

end Go.Proofs.Ytcgelaegceefeaa
