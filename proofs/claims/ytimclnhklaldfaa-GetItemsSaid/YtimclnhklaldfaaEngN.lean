/- The verifier's own engine, fourteenth part: bits of words. -/
import Derived.Test.YtimclnhklaldfaaEngM
namespace Go.Proofs.Ytimclnhklaldfaa
open Go Go.RowKit
set_option linter.unusedSectionVars false
variable [Df]
set_option linter.unusedVariables false
section
variable {P : Program} {n : Nat} {l : Fr} {C : World → Prop} {g : Bool} {d : Option Tmp} {x y : Operand} {T U : TypeId} {ty : TypeId} {pos : String} {af : Array Edge} {gd : Option (Nat × Bool)} {k k' : IntKind} {a s m : Int}
theorem R.shrV (hx : Ev n l g x (.int k a)) (hy : Ev n l g y (.int k' s)) (hs : 0 ≤ s ∧ s.toNat ≤ k.bits) (hm : (2 : Int) ^ s.toNat = m) : RunsC P n l C g ⟨d, .binOp .shr T x y U, ty, pos, af, gd⟩ (.int k (a / m)) := fun hg A w ha _ => by
  have h0 : ¬ s < 0 := by omega
  have h1 : min s.toNat k.bits = s.toNat := by omega
  have h2 : a.fdiv m = a / m := Int.fdiv_eq_ediv_of_nonneg a (by rw [← hm]; exact Int.pow_nonneg (by decide))
  simp [execOp, hx.eq hg ha, hy.eq hg ha, eqGuard, binOp, Op.shift, h0, h1, hm, h2]
theorem R.shlV (hx : Ev n l g x (.int k a)) (hy : Ev n l g y (.int k' s)) (hs : 0 ≤ s ∧ s.toNat ≤ k.bits) (hm : (2 : Int) ^ s.toNat = m) (hb : g = true → k.wrap (a * m) = a * m) : RunsC P n l C g ⟨d, .binOp .shl T x y U, ty, pos, af, gd⟩ (.int k (a * m)) := fun hg A w ha _ => by
  have h0 : ¬ s < 0 := by omega
  have h1 : min s.toNat k.bits = s.toNat := by omega
  simp [execOp, hx.eq hg ha, hy.eq hg ha, eqGuard, binOp, Op.shift, h0, h1, hm, hb hg]
theorem nat_mod_pow (a : Int) {j : Nat} (hj : j ≤ 64) : (((a % (2 ^ 64 : Int)).toNat % 2 ^ j : Nat) : Int) = a % (2 ^ j : Int) := by
  have h64 : 0 ≤ a % (2 ^ 64 : Int) := Int.emod_nonneg _ (by decide)
  rw [Int.natCast_emod, Int.toNat_of_nonneg h64]
  have : ((2 ^ j : Nat) : Int) = 2 ^ j := by simp
  rw [this]
  exact Int.emod_emod_of_dvd a (by
    have : (2 : Int) ^ 64 = 2 ^ j * 2 ^ (64 - j) := by rw [← Int.pow_add]; congr 1; omega
    rw [this]; exact Int.dvd_mul_right _ _)
/-- The lower bits of a word. -/
theorem R.andV {j : Nat} (hx : Ev n l g x (.int k a)) (hy : Ev n l g y (.int k s)) (hk : k.bits = 64) (hs : s + 1 = m) (hj : j ≤ 62) (hm : (2 : Int) ^ j = m) (hw : ∀ z : Int, 0 ≤ z ∧ z ≤ 9223372036854775807 → k.wrap z = z) : RunsC P n l C g ⟨d, .binOp .and T x y U, ty, pos, af, gd⟩ (.int k (a % m)) := fun hg A w ha _ => by
  simp only [execOp, hx.eq hg ha, hy.eq hg ha]
  have hp : (0 : Int) < 2 ^ j := Int.pow_pos (by decide)
  have hp62 : (2 : Int) ^ j ≤ 2 ^ 62 := by
    have := Nat.pow_le_pow_right (show 0 < 2 from by decide) hj
    have h2 : ((2 ^ j : Nat) : Int) ≤ ((2 ^ 62 : Nat) : Int) := Int.ofNat_le.2 this
    simpa using h2
  have e : s = ((2 ^ j - 1 : Nat) : Int) := by
    have : 1 ≤ 2 ^ j := Nat.one_le_two_pow
    rw [Int.natCast_sub this]; simp; omega
  have h3 : (2 : Nat) ^ j ≤ 2 ^ 62 := Nat.pow_le_pow_right (by decide) hj
  have h1 : (BitVec.ofInt k.bits a &&& BitVec.ofInt k.bits s).toNat = (a % (2 ^ 64 : Int)).toNat % 2 ^ j := by
    rw [BitVec.toNat_and, BitVec.toNat_ofInt, BitVec.toNat_ofInt, hk]
    have : (s % ((2 ^ 64 : Nat) : Int)).toNat = 2 ^ j - 1 := by
      rw [e, ← Int.natCast_emod, Int.toNat_natCast, Nat.mod_eq_of_lt]
      have : 0 < 2 ^ j := Nat.pow_pos (by decide)
      have : (2 : Nat) ^ 62 < 2 ^ 64 := by decide
      omega
    rw [this, Nat.and_two_pow_sub_one_eq_mod]
    simp
  have h2 := nat_mod_pow a (show j ≤ 64 by omega)
  have hr : 0 ≤ a % m ∧ a % m < m := ⟨Int.emod_nonneg _ (by omega), Int.emod_lt_of_pos _ (by omega)⟩
  have hm2 : (2 : Int) ^ 62 = 4611686018427387904 := by decide
  simp [eqGuard, binOp, Op.intBits]
  have h4 : (((BitVec.ofInt k.bits a &&& BitVec.ofInt k.bits s).toNat : Nat) : Int) = a % m := by rw [h1, h2, hm]
  simp at h4
  rw [h4]
  exact hw _ (by omega)
/-- Two words whose bits stand apart. -/
theorem R.orV {j : Nat} {b : Int} (hx : Ev n l g x (.int .i64 a)) (hy : Ev n l g y (.int .i64 b)) (hb : g = true → 0 ≤ a ∧ a % (2 : Int) ^ j = 0 ∧ 0 ≤ b ∧ b < 2 ^ j ∧ a + b ≤ 9223372036854775807) : RunsC P n l C g ⟨d, .binOp .or T x y U, ty, pos, af, gd⟩ (.int .i64 (a + b)) := fun hg A w ha _ => by
  obtain ⟨h0, h1, h2, h3, h4⟩ := hb hg
  simp only [execOp, hx.eq hg ha, hy.eq hg ha]
  obtain ⟨a', rfl⟩ := Int.eq_ofNat_of_zero_le h0
  obtain ⟨b', rfl⟩ := Int.eq_ofNat_of_zero_le h2
  have hb' : b' < 2 ^ j := by
    have : ((b' : Nat) : Int) < ((2 ^ j : Nat) : Int) := by simpa using h3
    exact Int.ofNat_lt.1 this
  have ha' : a' % 2 ^ j = 0 := by
    have : (((a' % 2 ^ j : Nat)) : Int) = 0 := by rw [Int.natCast_emod]; simpa using h1
    omega
  have hor : a' ||| b' = a' + b' := by
    obtain ⟨c, rfl⟩ := Nat.dvd_of_mod_eq_zero ha'
    exact (Nat.two_pow_add_eq_or_of_lt hb' c).symm
  have e : (BitVec.ofInt 64 (a' : Int) ||| BitVec.ofInt 64 (b' : Int)).toNat = a' + b' := by
    rw [BitVec.toNat_or, BitVec.toNat_ofInt, BitVec.toNat_ofInt]
    have q1 : (((a' : Nat) : Int) % ((2 ^ 64 : Nat) : Int)).toNat = a' := by
      rw [← Int.natCast_emod, Int.toNat_natCast]; exact Nat.mod_eq_of_lt (by omega)
    have q2 : (((b' : Nat) : Int) % ((2 ^ 64 : Nat) : Int)).toNat = b' := by
      rw [← Int.natCast_emod, Int.toNat_natCast]; exact Nat.mod_eq_of_lt (by omega)
    rw [q1, q2, hor]
  have e2 : (BitVec.ofInt IntKind.i64.bits (a' : Int) ||| BitVec.ofInt IntKind.i64.bits (b' : Int)).toNat = a' + b' := e
  have e3 : IntKind.i64.wrap ((((BitVec.ofInt IntKind.i64.bits (a' : Int) ||| BitVec.ofInt IntKind.i64.bits (b' : Int)).toNat : Nat) : Int)) = (a' : Int) + (b' : Int) := by
    rw [e2, show ((a' + b' : Nat) : Int) = (a' : Int) + (b' : Int) from by simp, IntWalk.i64_in _ ⟨by omega, by omega⟩]
  simp only [eqGuard, binOp, Op.intBits]
  show Sem.run P (do let v ← (do (pure () : Sem Unit); (pure (Value.int .i64 (IntKind.i64.wrap ((((BitVec.ofInt IntKind.i64.bits (a' : Int) ||| BitVec.ofInt IntKind.i64.bits (b' : Int)).toNat : Nat) : Int)))) : Sem Value)); pure (Next.value v)) w = _
  rw [e3]; rfl
end
end Go.Proofs.Ytimclnhklaldfaa
