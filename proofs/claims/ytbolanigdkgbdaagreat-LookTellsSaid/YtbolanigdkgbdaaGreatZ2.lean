/- Part of the proof: lemmas for what the last file states; no condition. -/
import Derived.Test.YtbolanigdkgbdaaGreatZ1
import Derived.Laws.OwnMore
import Derived.Laws.StructEq
import Derived.Test.YtbolanigdkgbdaaGreatProg
set_option linter.unusedSectionVars false
namespace Go.Proofs.YtbolanigdkgbdaaGreat
open Go Go.RowKit
set_option linter.unusedSectionVars false
variable [Df]
structure Ek (α : Type) where
  enc : α → List Value
  sz : Nat
  len : ∀ x, (enc x).length = sz
  one : ∀ x, ∀ v ∈ enc x, v.oneCell' = true
variable {α : Type}
def Ek.all (k : Ek α) (l : List α) : List Value := l.flatMap k.enc
abbrev rdE (k : Ek α) (v : Value) (l : List α) : Ent := .rd v k.sz l.length (k.all l)
abbrev rowE (k : Ek α) (E : TypeId) (v : Value) (l : List α) : Ent := .row v E k.sz l.length (k.all l)
def gE [Inhabited α] (l : List α) (j : Int) : α := l.getD j.toNat default
theorem Ek.all_cons (k : Ek α) (x : α) (l : List α) : k.all (x :: l) = k.enc x ++ k.all l := rfl
theorem Ek.all_append (k : Ek α) (a b : List α) : k.all (a ++ b) = k.all a ++ k.all b := List.flatMap_append
theorem Ek.all_length (k : Ek α) (l : List α) : (k.all l).length = l.length * k.sz := by
  induction l with
  | nil => simp [Ek.all]
  | cons x l ih => rw [k.all_cons, List.length_append, ih, k.len, List.length_cons, Nat.add_mul, Nat.one_mul, Nat.add_comm]
theorem Ek.all_one (k : Ek α) (l : List α) : ∀ x ∈ k.all l, x.oneCell' = true := fun x hx => by
  obtain ⟨y, _, hy⟩ := List.mem_flatMap.1 hx
  exact k.one y x hy
theorem Ek.all_drop (k : Ek α) : ∀ (l : List α) (i : Nat), (k.all l).drop (i * k.sz) = k.all (l.drop i)
  | l, 0 => by simp
  | [], i + 1 => by simp [Ek.all]
  | x :: l, i + 1 => by
    rw [k.all_cons, Nat.add_mul, Nat.one_mul, Nat.add_comm, ← List.drop_drop]
    have : (k.enc x ++ k.all l).drop k.sz = k.all l := by rw [← k.len x]; exact List.drop_left
    rw [this, k.all_drop l i]; rfl
theorem Ek.all_take (k : Ek α) : ∀ (l : List α) (i : Nat), (k.all l).take (i * k.sz) = k.all (l.take i)
  | l, 0 => by simp [Ek.all]
  | [], i + 1 => by simp [Ek.all]
  | x :: l, i + 1 => by
    have e : (i + 1) * k.sz = (k.enc x).length + i * k.sz := by rw [k.len, Nat.add_mul, Nat.one_mul, Nat.add_comm]
    rw [k.all_cons, e, List.take_length_add_append, k.all_take l i]; rfl
theorem Ek.all_get [Inhabited α] (k : Ek α) (l : List α) {j : Int} (q : Nat) {u : Value} (hu : (k.enc (gE l j))[q]? = some u) (h : 0 ≤ j ∧ j < l.length) : (k.all l)[j.toNat * k.sz + q]? = some u := by
  have hq : q < k.sz := by have := (List.getElem?_eq_some_iff.1 hu).1; rwa [k.len] at this
  have hj : j.toNat < l.length := by omega
  have h1 : (k.all l)[j.toNat * k.sz + q]? = ((k.all l).drop (j.toNat * k.sz))[q]? := by rw [List.getElem?_drop]
  rw [h1, k.all_drop, List.drop_eq_getElem_cons hj, k.all_cons, List.getElem?_append_left (by rw [k.len]; exact hq), ← hu]
  simp [gE, hj]
theorem Ek.get0 [Inhabited α] {k : Ek α} {l : List α} {j : Int} {u : Value} (hu : (k.enc (gE l j))[0]? = some u) (h : 0 ≤ j ∧ j < l.length) : (k.all l)[j.toNat * k.sz]? = some u := k.all_get l 0 hu h
theorem Ek.getN [Inhabited α] {k : Ek α} {l : List α} {j : Int} {q : Nat} {u : Value} (hu : (k.enc (gE l j))[q]? = some u) (h : 0 ≤ j ∧ j < l.length) : (k.all l)[j.toNat * k.sz + q]? = some u := k.all_get l q hu h
theorem Ek.getA [Inhabited α] {k : Ek α} {l : List α} {j : Int} (h : 0 ≤ j ∧ j < l.length) : ∀ q u, (k.enc (gE l j))[q]? = some u → (k.all l)[j.toNat * k.sz + q]? = some u := fun _ _ hu => k.all_get l _ hu h
theorem setL_mid : ∀ (c pre post : List Value), c.length ≤ post.length → setL (pre ++ post) pre.length c = pre ++ c ++ post.drop c.length
  | [], pre, post, _ => by simp [setL]
  | v :: c, pre, [], h => absurd h (by simp)
  | v :: c, pre, p :: post, h => by
    have e : (pre ++ p :: post).set pre.length v = (pre ++ [v]) ++ post := by simp
    have := setL_mid c (pre ++ [v]) post (by simpa using h)
    simp only [setL, e]
    simpa using this
theorem Ek.all_set (k : Ek α) (l : List α) (i : Nat) (y : α) (h : i < l.length) : setL (k.all l) (i * k.sz) (k.enc y) = k.all (l.set i y) := by
  have h1 : (k.all (l.take i)).length = i * k.sz := by rw [k.all_length, List.length_take, Nat.min_eq_left (by omega)]
  have e : k.all l = k.all (l.take i) ++ k.all (l.drop i) := by rw [← k.all_append, List.take_append_drop]
  have e2 : l.drop i = l[i] :: l.drop (i + 1) := List.drop_eq_getElem_cons h
  have h2 : (k.enc y).length ≤ (k.all (l.drop i)).length := by rw [k.len, k.all_length, e2, List.length_cons, Nat.add_mul]; omega
  rw [e, ← h1, setL_mid _ _ _ h2, List.set_eq_take_append_cons_drop, if_pos h, k.all_append, k.all_cons, e2, k.all_cons, k.len, ← k.len l[i], List.drop_left]
  simp
theorem fill_row (k : Ek α) : ∀ (ys : List α) (s : Nat) (pre post : List Value), pre.length = s * k.sz → post.length = ys.length * k.sz →
    Instr.fill (fun i => some (i * k.sz, k.sz)) (pre ++ post).toArray ((List.range' s ys.length).zip (ys.map fun y => .agg (k.enc y).toArray)) = some (pre ++ k.all ys).toArray
  | [], s, pre, post, _, h2 => by
    have : post = [] := List.eq_nil_of_length_eq_zero (by simpa using h2)
    simp [Instr.fill, this, Ek.all]
  | y :: ys, s, pre, post, h1, h2 => by
    have hv : (Value.agg (k.enc y).toArray).cells = (k.enc y).toArray := rfl
    have h3 : k.sz ≤ post.length := by rw [h2, List.length_cons, Nat.add_mul]; omega
    have h4 : (k.enc y).toArray.zipIdx.foldl (fun cs (x : Value × Nat) => cs.setIfInBounds (s * k.sz + x.2) x.1) (pre ++ post).toArray = ((pre ++ k.enc y) ++ post.drop k.sz).toArray := by
      have := setL_fold (s * k.sz) (k.enc y) 0 (pre ++ post).toArray
      have e2 := setL_mid (k.enc y) pre post (by rw [k.len]; exact h3)
      rw [h1, k.len] at e2
      simp only [Nat.add_zero, e2] at this
      simpa using this
    have := fill_row k ys (s + 1) (pre ++ k.enc y) (post.drop k.sz) (by rw [List.length_append, h1, k.len, Nat.add_mul, Nat.one_mul]) (by rw [List.length_drop, h2, List.length_cons, Nat.add_mul]; omega)
    simp only [List.length_cons, List.range'_succ, List.map_cons, List.zip_cons_cons, Instr.fill, hv]
    rw [if_neg (by simp [k.len]; omega)]
    refine Eq.trans ?_ (this.trans (by rw [k.all_cons, List.append_assoc]))
    congr 1
inductive Es (k : Ek α) : List Value → List α → Prop
  | nil : Es k [] []
  | cons {v : Value} {y : α} {vs : List Value} {ys : List α} : v.cells = (k.enc y).toArray → Es k vs ys → Es k (v :: vs) (y :: ys)
theorem fill_es {k : Ek α} {p : Nat → Option (Nat × Nat)} : ∀ {ix : List Nat} {vs : List Value} {ys : List α} (z : Array Value), Es k vs ys → Instr.fill p z (ix.zip vs) = Instr.fill p z (ix.zip (ys.map fun y => .agg (k.enc y).toArray))
  | [], vs, cc, z, _ => by simp
  | i :: ix, _, _, z, .nil => by simp
  | i :: ix, v :: vs, c :: cc, z, .cons h1 h2 => by
    have hv : (Value.agg (k.enc c).toArray).cells = (k.enc c).toArray := rfl
    simp only [List.zip_cons_cons, List.map_cons, Instr.fill, h1, hv]
    split
    · rfl
    · split
      · rfl
      · exact fill_es _ h2
section
variable {P : Program} {w0 : World} {n : Nat} {S N H : Hp} {l : Fr} {ops : Array Oper} {C : World → Prop} {K : Act → World → Prop} {r : List (Bool × Nat)} {i : Nat}
theorem At.lit {d len : Nat} {t e : TypeId} {ty : TypeId} {pos : String} {af : Array Edge} {gd : Option (Nat × Bool)} {parts : List (Nat × Operand)} {k : Ek α} {vs : List Value} {ys : List α} {by' : Nat}
    (ho : ops[i]? = some ⟨some d, .buildSlice t len parts.toArray, ty, pos, af, gd⟩) (hdn : Nat.blt d n = true)
    (hg : wantG ops l ⟨some d, .buildSlice t len parts.toArray, ty, pos, af, gd⟩ = some true)
    (ht : P.underlying t = some (.slice e)) (he : elemTab P e = some (k.sz, by')) (hv : Evs n l true (parts.map (·.2)) vs) (hys : Es k vs ys) (hix : parts.map (·.1) = List.range' 0 ys.length) (hlen : len = ys.length) (hsmall : Nat.ble (len * k.sz) 1000000 = true)
    (h : ∀ v', Cl w0 S (rowE k e v' ys :: N) H C ∧ At w0 n S ((d, true, v') :: l) (rowE k e v' ys :: N) H (wpSch P ops C K r)) : At w0 n S l N H (wpSch P ops C K ((false, i) :: r)) :=
  At.eW (d := some d) ho hg fun a w ha hw => by
    obtain ⟨inf, z, h2, h3, h4, h5, h6, h7⟩ := elemTab_info he
    have hsm : len * k.sz ≤ 1000000 := Nat.le_of_ble_eq_true hsmall
    have h1 : (parts.map fun x => (x.1, a.eval x.2)) = (parts.map (·.1)).zip vs := by
      rw [← hv.eq rfl ha]
      clear hv hix ho hg
      induction parts with
      | nil => rfl
      | cons x r ih => simp only [List.map_cons, List.zip_cons_cons]; rw [ih]
    subst hlen
    have hrun : (execOp a.eval ⟨some d, .buildSlice t ys.length parts.toArray, ty, pos, af, gd⟩).run P w = .ok (.value (.slice (some ⟨w.heap.size, 0, none⟩) ys.length ys.length)) (w.alloc (.cells (k.all ys).toArray e)) := by
      have hf : ∀ z' : Array Value, z'.size = ys.length * k.sz → Instr.fill (fun i => some (i * k.sz, k.sz)) z' ((parts.map (·.1)).zip vs) = some (k.all ys).toArray := fun z' hz' => by
        rw [hix, fill_es _ hys]
        have := fill_row k ys 0 [] z'.toList (by simp) (by simpa using hz')
        simpa using this
      have hsz : (sizeOf e).run P w = .ok k.sz w := run_sizeOf (by simp [h2, h4]) w
      have hzv : (zeroValue e).run P w = .ok z w := by simp [zeroValue, typeInfo, h2, h3]
      have hnb : ¬ (16777216 < ys.length * k.sz) := by omega
      simp only [execOp, Instr.buildSlice, List.map_toArray, h1]
      by_cases h0 : ys.length * k.sz = 0
      · simp [run_underlying ht, hsz, h0]
        rw [hf _ (by simp [h0])]
        simp [newRow]
      · have e0 := hf (Array.map (fun x => z.cells[x % z.cells.size]!) (Array.range (ys.length * k.sz))) (by simp)
        simp [run_underlying ht, hsz, hnb, h0, hzv, e0, newRow]
    unfold Oper.wp
    rw [hrun, Oper.upon_value]
    have hown : (rowE k e (.slice (some ⟨w.heap.size, 0, none⟩) ys.length ys.length) ys).holds (w.alloc (.cells (k.all ys).toArray e)) := by
      have hs : (k.all ys).toArray.size = ys.length * k.sz := by simp [k.all_length]
      have h8 : ys.length ≤ maxLen := by
        have : ys.length * 1 ≤ ys.length * k.sz := Nat.mul_le_mul_left _ h7
        simp only [maxLen]; omega
      exact World.ownsRow_lit (e := e) (base := 0) (size := k.sz) w (k.all ys).toArray ys.length (Nat.zero_le _) h8 hs
    have := hw.addN (e' := rowE k e (.slice (some ⟨w.heap.size, 0, none⟩) ys.length ys.length) ys) (fun b hb' => by simp [Ent.key, Value.ownBlock] at hb'; omega) hown rfl rfl rfl (by rw [World.size_alloc]; exact Nat.le_succ _) (fun b hb' => heap_alloc_lt w _ hb')
    exact ⟨(h _).1 _ this, (h _).2 _ _ (ha.put (by simpa using hdn) rfl) this⟩
theorem St.nilRow {w : World} (h : St w0 w S N H) (k : Ek α) (E : TypeId) : St w0 w S (rowE k E (.slice none 0 0) [] :: N) H :=
  h.addN (e' := rowE k E (.slice none 0 0) []) (fun b hb => by simp [Ent.key, Value.ownBlock] at hb) (World.ownsRow_nil w 0 E k.sz) rfl rfl rfl (Nat.le_refl _) (fun _ _ => rfl)
theorem At.nilRow {X : Act → World → Prop} (k : Ek α) (E : TypeId) (h : At w0 n S l (rowE k E (.slice none 0 0) [] :: N) H X) : At w0 n S l N H X := fun a w ha hw => h a w ha (hw.nilRow k E)
theorem At.len {X : Act → World → Prop} {v : Value} {sz m : Nat} {xs : List Value} (hr : RdIn (fun w => St w0 w S N H) v sz m xs) (h : m ≤ 9223372036854775807 → At w0 n S l N H X) : At w0 n S l N H X := fun a w ha hw => by
  obtain ⟨A, cap, rfl, h1, h2, h3, h4⟩ := hr w hw
  exact h (by simp only [maxLen] at h2; omega) a w ha hw
theorem At.app {d : Nat} {x y : Operand} {t ty : TypeId} {pos : String} {af : Array Edge} {gd : Option (Nat × Bool)} {e by' : Nat} {v u : Value} {k : Ek α} {xs ys : List α}
    (ho : ops[i]? = some ⟨some d, .call { callee := .builtin .append, args := #[x, y], argTypes := #[t, t] }, ty, pos, af, gd⟩) (hdn : Nat.blt d n = true)
    (hg : wantG ops l ⟨some d, .call { callee := .builtin .append, args := #[x, y], argTypes := #[t, t] }, ty, pos, af, gd⟩ = some true)
    (ht : P.underlying t = some (.slice e)) (he : elemTab P e = some (k.sz, by')) (hx : Ev n l true x v) (hy : Ev n l true y u) {N' : Value → Hp} (hu : ∀ v', UpL N (rowE k e v xs) (rowE k e v' (xs ++ ys)) (N' v')) (hr : RdIn (fun w => St w0 w S N H) u k.sz ys.length (k.all ys))
    (hb : (xs.length + ys.length) * by' ≤ 140737488355328 ∧ xs.length + ys.length ≤ 140737488355328)
    (h : ∀ v', Cl w0 S (N' v') H C ∧ At w0 n S ((d, true, v') :: l) (N' v') H (wpSch P ops C K r)) : At w0 n S l N H (wpSch P ops C K ((false, i) :: r)) :=
  At.append (sz := k.sz) (m := xs.length) (k := ys.length) (xs := k.all xs) (news := k.all ys) ho hdn hg ht he hx hy hr (k.all_one ys) hb
    (fun v' => by have := hu v'; rw [rowE, rowE, List.length_append, k.all_append] at this; exact this) h
inductive Rds (C : World → Prop) : Hp → Prop
  | nil : Rds C []
  | cons {v : Value} {sz m : Nat} {xs : List Value} {T : Hp} : RdIn C v sz m xs → Rds C T → Rds C (.rd v sz m xs :: T)
  | blk {b : Nat} {o : Obj} {T : Hp} : Go.Proofs.YtbolanigdkgbdaaGreat.Holds C (.blk b o) → Rds C T → Rds C (.blk b o :: T)
theorem Rds.all {C : World → Prop} {T : Hp} (h : Rds C T) : ∀ e ∈ T, ∀ w, C w → e.holds w := by
  induction h with
  | nil => intro e he; cases he
  | cons h1 _ ih =>
    intro e he
    rcases List.mem_cons.1 he with rfl | he
    · exact h1
    · exact ih e he
  | blk h1 _ ih =>
    intro e he
    rcases List.mem_cons.1 he with rfl | he
    · exact h1
    · exact ih e he
def IsR (k : Ek α) (E : TypeId) (x : List α) : Value → Hp → Hp → Prop := fun v N H => N = [rowE k E v x] ∧ H = []
def IsW (x : Value) (L : Hp) : Value → Hp → Hp → Prop := fun v N H => v = x ∧ N = [] ∧ H = L
theorem At.callR {d : Nat} {fx : Operand} {xs : List Operand} {ats : Array TypeId} {ty : TypeId} {pos : String} {af : Array Edge} {gd : Option (Nat × Bool)} {f : FuncId} {fst cap : List Value} {vs args : List Value} {S' : Hp} {k : Ek α} {E : TypeId} {z : List α}
    (ho : ops[i]? = some ⟨some d, .call { callee := .value fx, args := xs.toArray, argTypes := ats }, ty, pos, af, gd⟩) (hdn : Nat.blt d n = true) (hg : wantG ops l ⟨some d, .call { callee := .value fx, args := xs.toArray, argTypes := ats }, ty, pos, af, gd⟩ = some true)
    (hf : Ev n l true fx (.func (.func f) fst.toArray cap.toArray)) (hxs : Evs n l true xs vs) (hargs : fst ++ vs ++ cap = args) (hc : Fn P f args S' [] (IsR k E z)) (hS : Rds (fun w => St w0 w S N H) S')
    (h : ∀ v, Cl w0 S (rowE k E v z :: N) H C ∧ At w0 n S ((d, true, v) :: l) (rowE k E v z :: N) H (wpSch P ops C K r)) : At w0 n S l N H (wpSch P ops C K ((false, i) :: r)) :=
  At.callP ho hdn hg hf hxs hargs hc hS.all fun v N' H' hR => by
    obtain ⟨rfl, rfl⟩ := hR
    exact ⟨rfl, h v⟩
theorem At.callRF {d : Nat} {xs : List Operand} {ats : Array TypeId} {ty : TypeId} {pos : String} {af : Array Edge} {gd : Option (Nat × Bool)} {f : FuncId} {vs : List Value} {S' : Hp} {k : Ek α} {E : TypeId} {z : List α}
    (ho : ops[i]? = some ⟨some d, .call { callee := .value (.func f), args := xs.toArray, argTypes := ats }, ty, pos, af, gd⟩) (hdn : Nat.blt d n = true) (hg : wantG ops l ⟨some d, .call { callee := .value (.func f), args := xs.toArray, argTypes := ats }, ty, pos, af, gd⟩ = some true)
    (hxs : Evs n l true xs vs) (hS : Rds (fun w => St w0 w S N H) S') (hc : Fn P f vs S' [] (IsR k E z))
    (h : ∀ v, Cl w0 S (rowE k E v z :: N) H C ∧ At w0 n S ((d, true, v) :: l) (rowE k E v z :: N) H (wpSch P ops C K r)) : At w0 n S l N H (wpSch P ops C K ((false, i) :: r)) :=
  At.callR (fst := []) (cap := []) ho hdn hg Ev.f hxs (by simp) hc hS h
theorem At.callVR {d : Nat} {xs : List Operand} {ats : Array TypeId} {ty : TypeId} {pos : String} {af : Array Edge} {gd : Option (Nat × Bool)} {g : Bool} {f : FuncId} {vs : List Value} {S' : Hp} {v0 : Value}
    (ho : ops[i]? = some ⟨some d, .call { callee := .value (.func f), args := xs.toArray, argTypes := ats }, ty, pos, af, gd⟩) (hdn : Nat.blt d n = true) (hg : wantG ops l ⟨some d, .call { callee := .value (.func f), args := xs.toArray, argTypes := ats }, ty, pos, af, gd⟩ = some g)
    (hxs : Evs n l g xs vs) (hS : Rds (fun w => St w0 w S N H) S') (hc : g = true → Fn P f vs S' [] (IsV v0)) (hC : Cl w0 S N H C)
    (h : At w0 n S ((d, g, v0) :: l) N H (wpSch P ops C K r)) : At w0 n S l N H (wpSch P ops C K ((false, i) :: r)) :=
  At.callV ho hdn hg hxs hc hS.all hC h
theorem At.re {N' : Hp} {X : Act → World → Prop} (hN : N = N') (h : At w0 n S l N' H X) : At w0 n S l N H X := by subst hN; exact h
theorem At.join2 {β : Type} {X : Act → World → Prop} {s1 s2 : List (Bool × Nat)} (L : β → Fr) (NN : β → Hp) (hK : ∀ x, At w0 n S (L x) (NN x) H X)
    (h1 : (∀ x (l' : Fr) (N' : Hp), (∀ t v, look (L x) t = some v → look l' t = some v) → (NN x).Sublist N' → At w0 n S l' N' H X) → At w0 n S l N H (wpSch P ops C X s1))
    (h2 : (∀ x (l' : Fr) (N' : Hp), (∀ t v, look (L x) t = some v → look l' t = some v) → (NN x).Sublist N' → At w0 n S l' N' H X) → At w0 n S l N H (wpSch P ops C X s2)) :
    At w0 n S l N H (fun a w => wpSch P ops C X s1 a w ∧ wpSch P ops C X s2 a w) :=
  At.both (h1 fun x _ _ hl hN => At.weak hl hN (hK x)) (h2 fun x _ _ hl hN => At.weak hl hN (hK x))
theorem At.reRow {N' : Hp} {X : Act → World → Prop} {k : Ek α} {e : TypeId} {v : Value} {xs xs' : List α} (hu : UpL N (rowE k e v xs) (rowE k e v xs') N') (he : xs = xs') (h : At w0 n S l N' H X) : At w0 n S l N H X := by
  subst he
  obtain ⟨a, b, rfl, rfl⟩ := hu.form
  exact h
end
def flatKs (P : Program) : Nat → List Field → Option (List Bool)
  | _, [] => some []
  | i, f :: fs => if f.name ≠ "_" && f.offset == i then match P.underlying f.type, flatKs P (i + 1) fs with
    | some (.int _), some r => some (true :: r)
    | some .bool, some r => some (false :: r)
    | _, _ => none
    else none
def flatQ (P : Program) (T : TypeId) : Option (List Bool) :=
  match P.underlying T with
  | some (.struct fs) => if P.stoodInHeld T = false && P.eqGuardType P.depth T = false then flatKs P 0 fs.toList else none
  | _ => none
def eqL : List Bool → List Value → List Value → Option Bool
  | [], [], [] => some true
  | true :: ks, .int k a :: xs, .int k' b :: ys => if k = k' then (eqL ks xs ys).map ((a == b) && ·) else none
  | false :: ks, .bool a :: xs, .bool b :: ys => (eqL ks xs ys).map ((a == b) && ·)
  | _, _, _ => none
theorem run_part {P : Program} {w : World} {T : TypeId} {D : TypeDesc} (hT : P.underlying T = some D) (hD : plainD D = true) {xs : Array Value} {i : Nat} {v : Value} (hv : xs[i]? = some v) : (part T xs i).run P w = .ok v w := by
  have h2 := run_isAgg hT w
  rw [hD] at h2
  simp [part, h2, hv]
theorem run_eqFields {P : Program} {w : World} {d : Nat} : ∀ (fs : List Field) (ks : List Bool) (xs ys px py : List Value) (r : Bool), flatKs P px.length fs = some ks → px.length = py.length → eqL ks xs ys = some r →
    (Op.eqFields (d + 1) (px ++ xs).toArray (py ++ ys).toArray fs).run P w = .ok r w
  | [], ks, xs, ys, px, py, r, hk, hp, he => by
    simp only [flatKs, Option.some.injEq] at hk
    subst hk
    cases xs <;> cases ys <;> simp [eqL] at he
    subst he
    simp [Op.eqFields]
  | f :: fs, ks, xs, ys, px, py, r, hk, hp, he => by
    simp only [flatKs] at hk
    split at hk
    · rename_i hc
      simp only [ne_eq, Bool.and_eq_true, decide_eq_true_eq, beq_iff_eq] at hc
      obtain ⟨hn, ho⟩ := hc
      split at hk
      · rename_i k r' hT hr'
        injection hk with hk; subst hk
        match xs, ys, he with
        | .int k1 a :: xs, .int k2 b :: ys, he =>
          simp only [eqL] at he
          split at he
          · rename_i hkk; subst hkk
            simp only [Option.map_eq_some_iff] at he
            obtain ⟨r2, he2, rfl⟩ := he
            have h1 := run_part (w := w) hT rfl (xs := (px ++ .int k1 a :: xs).toArray) (i := f.offset) (v := .int k1 a) (by simp [ho])
            have h2 := run_part (w := w) hT rfl (xs := (py ++ .int k1 b :: ys).toArray) (i := f.offset) (v := .int k1 b) (by simp [ho, hp])
            have h3 := run_equalIn_int (P := P) w d f.type k1 k a b hT
            have ih := run_eqFields (w := w) (d := d) fs r' xs ys (px ++ [.int k1 a]) (py ++ [.int k1 b]) r2 (by simpa using hr') (by simp [hp]) he2
            simp only [List.append_assoc, List.singleton_append] at ih
            simp only [Op.eqFields, ne_eq, hn, not_false_eq_true, if_true, Sem.run_bind, h1, h2, h3, Result.andThen_ok]
            cases hab : (a == b) with
            | true => simpa [hab] using ih
            | false => simp
          · cases he
      · rename_i r' hT hr'
        injection hk with hk; subst hk
        match xs, ys, he with
        | .bool a :: xs, .bool b :: ys, he =>
          simp only [eqL] at he
          simp only [Option.map_eq_some_iff] at he
          obtain ⟨r2, he2, rfl⟩ := he
          have h1 := run_part (w := w) hT rfl (xs := (px ++ .bool a :: xs).toArray) (i := f.offset) (v := .bool a) (by simp [ho])
          have h2 := run_part (w := w) hT rfl (xs := (py ++ .bool b :: ys).toArray) (i := f.offset) (v := .bool b) (by simp [ho, hp])
          have h3 := run_equalIn_bool' (P := P) w d f.type a b hT
          have ih := run_eqFields (w := w) (d := d) fs r' xs ys (px ++ [.bool a]) (py ++ [.bool b]) r2 (by simpa using hr') (by simp [hp]) he2
          simp only [List.append_assoc, List.singleton_append] at ih
          simp only [Op.eqFields, ne_eq, hn, not_false_eq_true, if_true, Sem.run_bind, h1, h2, h3, Result.andThen_ok]
          cases hab : (a == b) with
          | true => simpa [hab] using ih
          | false => simp
      · cases hk
    · cases hk
section
variable {P : Program} {n : Nat} {l : Fr} {C : World → Prop} {d : Option Tmp} {ty : TypeId} {pos : String} {af : Array Edge} {gd : Option (Nat × Bool)} {g : Bool} {x y : Operand} {T U : TypeId} {xs ys : List Value} {ks : List Bool} {r : Bool}
theorem run_flat {w : World} (hq : flatQ P T = some ks) (he : eqL ks xs ys = some r) : P.eqGuardType P.depth T = false ∧ (Op.equalIn 10000 T (.agg xs.toArray) (.agg ys.toArray)).run P w = .ok r w := by
  unfold flatQ at hq
  split at hq
  · rename_i fs hfs
    split at hq
    · rename_i hc
      simp only [Bool.and_eq_true, decide_eq_true_eq] at hc
      have hF : P.fieldsOf T = fs := by simp [Program.fieldsOf, hfs]
      refine ⟨hc.2, ?_⟩
      rw [show (10000 : Nat) = 9999 + 1 from rfl, run_equalIn_agg w 9999 T _ _ (by rw [hF]; exact hfs) hc.1, hF]
      have := run_eqFields (P := P) (w := w) (d := 9998) fs.toList ks xs ys [] [] r hq rfl he
      simpa using this
    · cases hq
  · cases hq
theorem R.eqlS (hq : flatQ P T = some ks) (hx : Ev n l g x (.agg xs.toArray)) (hy : Ev n l g y (.agg ys.toArray)) (he : eqL ks xs ys = some r) : RunsC P n l C g ⟨d, .binOp .eql T x y U, ty, pos, af, gd⟩ (.bool r) := fun hg A w ha _ => by
  obtain ⟨h1, h2⟩ := run_flat (w := w) hq he
  simp [execOp, hx.eq hg ha, hy.eq hg ha, run_eqGuard_agg w .eql T x y _ _ h1, run_eql_struct, h2]
theorem R.neqS (hq : flatQ P T = some ks) (hx : Ev n l g x (.agg xs.toArray)) (hy : Ev n l g y (.agg ys.toArray)) (he : eqL ks xs ys = some r) : RunsC P n l C g ⟨d, .binOp .neq T x y U, ty, pos, af, gd⟩ (.bool (!r)) := fun hg A w ha _ => by
  obtain ⟨h1, h2⟩ := run_flat (w := w) hq he
  simp [execOp, hx.eq hg ha, hy.eq hg ha, run_eqGuard_agg w .neq T x y _ _ h1, run_neq_struct, h2]
end
theorem RdIn.cutE {C : World → Prop} {k : Ek α} {v : Value} {l : List α} (h : RdIn C v k.sz l.length (k.all l)) (lo hi : Nat) (h1 : lo ≤ hi) (h2 : hi ≤ l.length) : RdIn C (cutV v k.sz lo hi) k.sz ((l.drop lo).take (hi - lo)).length (k.all ((l.drop lo).take (hi - lo))) := by
  have := h.cut lo hi h1 h2
  rw [k.all_drop, k.all_take] at this
  have e : ((l.drop lo).take (hi - lo)).length = hi - lo := by rw [List.length_take, List.length_drop]; omega
  rwa [e]
section
variable {P : Program} {w0 : World} {n : Nat} {S N H : Hp} {l : Fr} {Q : Exit → Act → World → Prop}
abbrev Again1 (w0 : World) (n : Nat) (S : Hp) {β0 : Type} (I : β0 → Prop) (μ : β0 → Nat) (L : β0 → Fr) (NN HH : β0 → Hp) (i : β0) : Act → World → Prop := Again w0 n S (fun i : β0 => I i) (fun i : β0 => μ i) (fun i : β0 => L i) (fun i : β0 => NN i) (fun i : β0 => HH i) i
theorem At.loop1 {β0 : Type} (I : β0 → Prop) (μ : β0 → Nat) (L : β0 → Fr) (NN HH : β0 → Hp) {c : Code} (s0 : β0) (hI : I s0) (hl : Sub l (L s0)) (hN : (NN s0).Sublist N) (hH : HH s0 = H)
    (round : ∀ (x0 : β0), I x0 → At w0 n S (L x0) (NN x0) (HH x0) (c.wp P (Exit.then (Again1 w0 n S I μ L NN HH x0) Q))) : At w0 n S l N H ((Code.loop c).wp P Q) :=
  At.loop (fun i : β0 => I i) (fun i : β0 => μ i) (fun i : β0 => L i) (fun i : β0 => NN i) (fun i : β0 => HH i) s0 hI hl hN hH (fun i hi => round i hi)
theorem At.again1 {β0 : Type} {I : β0 → Prop} {μ : β0 → Nat} {L : β0 → Fr} {NN HH : β0 → Hp} {j : β0} (s0 : β0) (hI : I s0) (hμ : μ s0 < μ j) (hl : Sub l (L s0)) (hN : (NN s0).Sublist N) (hH : HH s0 = H) : At w0 n S l N H (Again1 w0 n S I μ L NN HH j) :=
  At.again (I := (fun i : β0 => I i)) (μ := (fun i : β0 => μ i)) (L := (fun i : β0 => L i)) (NN := (fun i : β0 => NN i)) (HH := (fun i : β0 => HH i)) s0 hI hμ hl hN hH
abbrev Again2 (w0 : World) (n : Nat) (S : Hp) {β0 β1 : Type} (I : β0 → β1 → Prop) (μ : β0 → β1 → Nat) (L : β0 → β1 → Fr) (NN HH : β0 → β1 → Hp) (i : β0 × β1) : Act → World → Prop := Again w0 n S (fun i : β0 × β1 => I i.1 i.2) (fun i : β0 × β1 => μ i.1 i.2) (fun i : β0 × β1 => L i.1 i.2) (fun i : β0 × β1 => NN i.1 i.2) (fun i : β0 × β1 => HH i.1 i.2) i
theorem At.loop2 {β0 β1 : Type} (I : β0 → β1 → Prop) (μ : β0 → β1 → Nat) (L : β0 → β1 → Fr) (NN HH : β0 → β1 → Hp) {c : Code} (s0 : β0) (s1 : β1) (hI : I s0 s1) (hl : Sub l (L s0 s1)) (hN : (NN s0 s1).Sublist N) (hH : HH s0 s1 = H)
    (round : ∀ (x0 : β0) (x1 : β1), I x0 x1 → At w0 n S (L x0 x1) (NN x0 x1) (HH x0 x1) (c.wp P (Exit.then (Again2 w0 n S I μ L NN HH (x0, x1)) Q))) : At w0 n S l N H ((Code.loop c).wp P Q) :=
  At.loop (fun i : β0 × β1 => I i.1 i.2) (fun i : β0 × β1 => μ i.1 i.2) (fun i : β0 × β1 => L i.1 i.2) (fun i : β0 × β1 => NN i.1 i.2) (fun i : β0 × β1 => HH i.1 i.2) (s0, s1) hI hl hN hH (fun i hi => round i.1 i.2 hi)
theorem At.again2 {β0 β1 : Type} {I : β0 → β1 → Prop} {μ : β0 → β1 → Nat} {L : β0 → β1 → Fr} {NN HH : β0 → β1 → Hp} {j : β0 × β1} (s0 : β0) (s1 : β1) (hI : I s0 s1) (hμ : μ s0 s1 < μ j.1 j.2) (hl : Sub l (L s0 s1)) (hN : (NN s0 s1).Sublist N) (hH : HH s0 s1 = H) : At w0 n S l N H (Again2 w0 n S I μ L NN HH j) :=
  At.again (I := (fun i : β0 × β1 => I i.1 i.2)) (μ := (fun i : β0 × β1 => μ i.1 i.2)) (L := (fun i : β0 × β1 => L i.1 i.2)) (NN := (fun i : β0 × β1 => NN i.1 i.2)) (HH := (fun i : β0 × β1 => HH i.1 i.2)) (s0, s1) hI hμ hl hN hH
abbrev Again3 (w0 : World) (n : Nat) (S : Hp) {β0 β1 β2 : Type} (I : β0 → β1 → β2 → Prop) (μ : β0 → β1 → β2 → Nat) (L : β0 → β1 → β2 → Fr) (NN HH : β0 → β1 → β2 → Hp) (i : β0 × β1 × β2) : Act → World → Prop := Again w0 n S (fun i : β0 × β1 × β2 => I i.1 i.2.1 i.2.2) (fun i : β0 × β1 × β2 => μ i.1 i.2.1 i.2.2) (fun i : β0 × β1 × β2 => L i.1 i.2.1 i.2.2) (fun i : β0 × β1 × β2 => NN i.1 i.2.1 i.2.2) (fun i : β0 × β1 × β2 => HH i.1 i.2.1 i.2.2) i
theorem At.loop3 {β0 β1 β2 : Type} (I : β0 → β1 → β2 → Prop) (μ : β0 → β1 → β2 → Nat) (L : β0 → β1 → β2 → Fr) (NN HH : β0 → β1 → β2 → Hp) {c : Code} (s0 : β0) (s1 : β1) (s2 : β2) (hI : I s0 s1 s2) (hl : Sub l (L s0 s1 s2)) (hN : (NN s0 s1 s2).Sublist N) (hH : HH s0 s1 s2 = H)
    (round : ∀ (x0 : β0) (x1 : β1) (x2 : β2), I x0 x1 x2 → At w0 n S (L x0 x1 x2) (NN x0 x1 x2) (HH x0 x1 x2) (c.wp P (Exit.then (Again3 w0 n S I μ L NN HH (x0, x1, x2)) Q))) : At w0 n S l N H ((Code.loop c).wp P Q) :=
  At.loop (fun i : β0 × β1 × β2 => I i.1 i.2.1 i.2.2) (fun i : β0 × β1 × β2 => μ i.1 i.2.1 i.2.2) (fun i : β0 × β1 × β2 => L i.1 i.2.1 i.2.2) (fun i : β0 × β1 × β2 => NN i.1 i.2.1 i.2.2) (fun i : β0 × β1 × β2 => HH i.1 i.2.1 i.2.2) (s0, s1, s2) hI hl hN hH (fun i hi => round i.1 i.2.1 i.2.2 hi)
theorem At.again3 {β0 β1 β2 : Type} {I : β0 → β1 → β2 → Prop} {μ : β0 → β1 → β2 → Nat} {L : β0 → β1 → β2 → Fr} {NN HH : β0 → β1 → β2 → Hp} {j : β0 × β1 × β2} (s0 : β0) (s1 : β1) (s2 : β2) (hI : I s0 s1 s2) (hμ : μ s0 s1 s2 < μ j.1 j.2.1 j.2.2) (hl : Sub l (L s0 s1 s2)) (hN : (NN s0 s1 s2).Sublist N) (hH : HH s0 s1 s2 = H) : At w0 n S l N H (Again3 w0 n S I μ L NN HH j) :=
  At.again (I := (fun i : β0 × β1 × β2 => I i.1 i.2.1 i.2.2)) (μ := (fun i : β0 × β1 × β2 => μ i.1 i.2.1 i.2.2)) (L := (fun i : β0 × β1 × β2 => L i.1 i.2.1 i.2.2)) (NN := (fun i : β0 × β1 × β2 => NN i.1 i.2.1 i.2.2)) (HH := (fun i : β0 × β1 × β2 => HH i.1 i.2.1 i.2.2)) (s0, s1, s2) hI hμ hl hN hH
abbrev Again6 (w0 : World) (n : Nat) (S : Hp) {β0 β1 β2 β3 β4 β5 : Type} (I : β0 → β1 → β2 → β3 → β4 → β5 → Prop) (μ : β0 → β1 → β2 → β3 → β4 → β5 → Nat) (L : β0 → β1 → β2 → β3 → β4 → β5 → Fr) (NN HH : β0 → β1 → β2 → β3 → β4 → β5 → Hp) (i : β0 × β1 × β2 × β3 × β4 × β5) : Act → World → Prop := Again w0 n S (fun i : β0 × β1 × β2 × β3 × β4 × β5 => I i.1 i.2.1 i.2.2.1 i.2.2.2.1 i.2.2.2.2.1 i.2.2.2.2.2) (fun i : β0 × β1 × β2 × β3 × β4 × β5 => μ i.1 i.2.1 i.2.2.1 i.2.2.2.1 i.2.2.2.2.1 i.2.2.2.2.2) (fun i : β0 × β1 × β2 × β3 × β4 × β5 => L i.1 i.2.1 i.2.2.1 i.2.2.2.1 i.2.2.2.2.1 i.2.2.2.2.2) (fun i : β0 × β1 × β2 × β3 × β4 × β5 => NN i.1 i.2.1 i.2.2.1 i.2.2.2.1 i.2.2.2.2.1 i.2.2.2.2.2) (fun i : β0 × β1 × β2 × β3 × β4 × β5 => HH i.1 i.2.1 i.2.2.1 i.2.2.2.1 i.2.2.2.2.1 i.2.2.2.2.2) i
theorem At.loop6 {β0 β1 β2 β3 β4 β5 : Type} (I : β0 → β1 → β2 → β3 → β4 → β5 → Prop) (μ : β0 → β1 → β2 → β3 → β4 → β5 → Nat) (L : β0 → β1 → β2 → β3 → β4 → β5 → Fr) (NN HH : β0 → β1 → β2 → β3 → β4 → β5 → Hp) {c : Code} (s0 : β0) (s1 : β1) (s2 : β2) (s3 : β3) (s4 : β4) (s5 : β5) (hI : I s0 s1 s2 s3 s4 s5) (hl : Sub l (L s0 s1 s2 s3 s4 s5)) (hN : (NN s0 s1 s2 s3 s4 s5).Sublist N) (hH : HH s0 s1 s2 s3 s4 s5 = H)
    (round : ∀ (x0 : β0) (x1 : β1) (x2 : β2) (x3 : β3) (x4 : β4) (x5 : β5), I x0 x1 x2 x3 x4 x5 → At w0 n S (L x0 x1 x2 x3 x4 x5) (NN x0 x1 x2 x3 x4 x5) (HH x0 x1 x2 x3 x4 x5) (c.wp P (Exit.then (Again6 w0 n S I μ L NN HH (x0, x1, x2, x3, x4, x5)) Q))) : At w0 n S l N H ((Code.loop c).wp P Q) :=
  At.loop (fun i : β0 × β1 × β2 × β3 × β4 × β5 => I i.1 i.2.1 i.2.2.1 i.2.2.2.1 i.2.2.2.2.1 i.2.2.2.2.2) (fun i : β0 × β1 × β2 × β3 × β4 × β5 => μ i.1 i.2.1 i.2.2.1 i.2.2.2.1 i.2.2.2.2.1 i.2.2.2.2.2) (fun i : β0 × β1 × β2 × β3 × β4 × β5 => L i.1 i.2.1 i.2.2.1 i.2.2.2.1 i.2.2.2.2.1 i.2.2.2.2.2) (fun i : β0 × β1 × β2 × β3 × β4 × β5 => NN i.1 i.2.1 i.2.2.1 i.2.2.2.1 i.2.2.2.2.1 i.2.2.2.2.2) (fun i : β0 × β1 × β2 × β3 × β4 × β5 => HH i.1 i.2.1 i.2.2.1 i.2.2.2.1 i.2.2.2.2.1 i.2.2.2.2.2) (s0, s1, s2, s3, s4, s5) hI hl hN hH (fun i hi => round i.1 i.2.1 i.2.2.1 i.2.2.2.1 i.2.2.2.2.1 i.2.2.2.2.2 hi)
theorem At.again6 {β0 β1 β2 β3 β4 β5 : Type} {I : β0 → β1 → β2 → β3 → β4 → β5 → Prop} {μ : β0 → β1 → β2 → β3 → β4 → β5 → Nat} {L : β0 → β1 → β2 → β3 → β4 → β5 → Fr} {NN HH : β0 → β1 → β2 → β3 → β4 → β5 → Hp} {j : β0 × β1 × β2 × β3 × β4 × β5} (s0 : β0) (s1 : β1) (s2 : β2) (s3 : β3) (s4 : β4) (s5 : β5) (hI : I s0 s1 s2 s3 s4 s5) (hμ : μ s0 s1 s2 s3 s4 s5 < μ j.1 j.2.1 j.2.2.1 j.2.2.2.1 j.2.2.2.2.1 j.2.2.2.2.2) (hl : Sub l (L s0 s1 s2 s3 s4 s5)) (hN : (NN s0 s1 s2 s3 s4 s5).Sublist N) (hH : HH s0 s1 s2 s3 s4 s5 = H) : At w0 n S l N H (Again6 w0 n S I μ L NN HH j) :=
  At.again (I := (fun i : β0 × β1 × β2 × β3 × β4 × β5 => I i.1 i.2.1 i.2.2.1 i.2.2.2.1 i.2.2.2.2.1 i.2.2.2.2.2)) (μ := (fun i : β0 × β1 × β2 × β3 × β4 × β5 => μ i.1 i.2.1 i.2.2.1 i.2.2.2.1 i.2.2.2.2.1 i.2.2.2.2.2)) (L := (fun i : β0 × β1 × β2 × β3 × β4 × β5 => L i.1 i.2.1 i.2.2.1 i.2.2.2.1 i.2.2.2.2.1 i.2.2.2.2.2)) (NN := (fun i : β0 × β1 × β2 × β3 × β4 × β5 => NN i.1 i.2.1 i.2.2.1 i.2.2.2.1 i.2.2.2.2.1 i.2.2.2.2.2)) (HH := (fun i : β0 × β1 × β2 × β3 × β4 × β5 => HH i.1 i.2.1 i.2.2.1 i.2.2.2.1 i.2.2.2.2.1 i.2.2.2.2.2)) (s0, s1, s2, s3, s4, s5) hI hμ hl hN hH
end
theorem M0 {β : Type} {a : β} {l : List β} : a ∈ a :: l := .head _
theorem M1 {β : Type} {a b0 : β} {l : List β} : a ∈ b0 :: a :: l := .tail _ M0
theorem M2 {β : Type} {a b0 b1 : β} {l : List β} : a ∈ b0 :: b1 :: a :: l := .tail _ M1
theorem M3 {β : Type} {a b0 b1 b2 : β} {l : List β} : a ∈ b0 :: b1 :: b2 :: a :: l := .tail _ M2
theorem M4 {β : Type} {a b0 b1 b2 b3 : β} {l : List β} : a ∈ b0 :: b1 :: b2 :: b3 :: a :: l := .tail _ M3
theorem M5 {β : Type} {a b0 b1 b2 b3 b4 : β} {l : List β} : a ∈ b0 :: b1 :: b2 :: b3 :: b4 :: a :: l := .tail _ M4
theorem M6 {β : Type} {a b0 b1 b2 b3 b4 b5 : β} {l : List β} : a ∈ b0 :: b1 :: b2 :: b3 :: b4 :: b5 :: a :: l := .tail _ M5
theorem M7 {β : Type} {a b0 b1 b2 b3 b4 b5 b6 : β} {l : List β} : a ∈ b0 :: b1 :: b2 :: b3 :: b4 :: b5 :: b6 :: a :: l := .tail _ M6
theorem M8 {β : Type} {a b0 b1 b2 b3 b4 b5 b6 b7 : β} {l : List β} : a ∈ b0 :: b1 :: b2 :: b3 :: b4 :: b5 :: b6 :: b7 :: a :: l := .tail _ M7
theorem U0 {l : Hp} {e e' : Ent} : UpL (e :: l) e e' (e' :: l) := .here
theorem U1 {l : Hp} {e e' b0 : Ent} : UpL (b0 :: e :: l) e e' (b0 :: e' :: l) := .there U0
theorem U2 {l : Hp} {e e' b0 b1 : Ent} : UpL (b0 :: b1 :: e :: l) e e' (b0 :: b1 :: e' :: l) := .there U1
theorem U3 {l : Hp} {e e' b0 b1 b2 : Ent} : UpL (b0 :: b1 :: b2 :: e :: l) e e' (b0 :: b1 :: b2 :: e' :: l) := .there U2
theorem U4 {l : Hp} {e e' b0 b1 b2 b3 : Ent} : UpL (b0 :: b1 :: b2 :: b3 :: e :: l) e e' (b0 :: b1 :: b2 :: b3 :: e' :: l) := .there U3
theorem U5 {l : Hp} {e e' b0 b1 b2 b3 b4 : Ent} : UpL (b0 :: b1 :: b2 :: b3 :: b4 :: e :: l) e e' (b0 :: b1 :: b2 :: b3 :: b4 :: e' :: l) := .there U4
theorem U6 {l : Hp} {e e' b0 b1 b2 b3 b4 b5 : Ent} : UpL (b0 :: b1 :: b2 :: b3 :: b4 :: b5 :: e :: l) e e' (b0 :: b1 :: b2 :: b3 :: b4 :: b5 :: e' :: l) := .there U5
section
variable {w0 : World} {S N H L : Hp} {v : Value} {E : TypeId} {sz m : Nat} {xs : List Value}
theorem rS (h : Ent.rd v sz m xs ∈ S ++ (N ++ H)) : RdIn (fun w => St w0 w S N H) v sz m xs := RdIn.rd (.st h)
theorem wS (h : Ent.row v E sz m xs ∈ S ++ (N ++ H)) : RdIn (fun w => St w0 w S N H) v sz m xs := RdIn.row (.st h)
theorem rK (h : Ent.rd v sz m xs ∈ L) : RdIn (Kept L) v sz m xs := RdIn.rd (.kept h)
theorem wK (h : Ent.row v E sz m xs ∈ L) : RdIn (Kept L) v sz m xs := RdIn.row (.kept h)
theorem cS {b i : Nat} {cs : Array Value} {T : TypeId} {fz : Nat × Nat} (hm : Ent.blk b (.cells cs T fz) ∈ S ++ (N ++ H)) (hc : cs[i]? = some v) : CellIn (fun w => St w0 w S N H) b i v := cin (.st hm) hc
theorem cK {b i : Nat} {cs : Array Value} {T : TypeId} {fz : Nat × Nat} (hm : Ent.blk b (.cells cs T fz) ∈ L) (hc : cs[i]? = some v) : CellIn (Kept L) b i v := cin (.kept hm) hc
theorem csS {b i : Nat} {cs : Array Value} {T : TypeId} {fz : Nat × Nat} (hm : Ent.blk b (.cells cs T fz) ∈ S ++ (N ++ H)) (hc : CellsAt cs i xs) : CellsIn (fun w => St w0 w S N H) b i xs := csin (.st hm) hc
theorem csK {b i : Nat} {cs : Array Value} {T : TypeId} {fz : Nat × Nat} (hm : Ent.blk b (.cells cs T fz) ∈ L) (hc : CellsAt cs i xs) : CellsIn (Kept L) b i xs := csin (.kept hm) hc
end
section
variable {w0 : World} {S N H : Hp} {v : Value} {E : TypeId} {sz m : Nat} {xs : List Value}
theorem wN (h : Ent.row v E sz m xs ∈ N ++ H) : RdIn (fun w => St w0 w S N H) v sz m xs := wS (List.mem_append_right S h)
theorem wKN (h : Ent.row v E sz m xs ∈ N ++ H) : RdIn (Kept (S ++ (N ++ H))) v sz m xs := wK (List.mem_append_right S h)
theorem cN {b i : Nat} {cs : Array Value} {T : TypeId} {fz : Nat × Nat} (hm : Ent.blk b (.cells cs T fz) ∈ N ++ H) (hc : cs[i]? = some v) : CellIn (fun w => St w0 w S N H) b i v := cS (List.mem_append_right S hm) hc
theorem cKN {b i : Nat} {cs : Array Value} {T : TypeId} {fz : Nat × Nat} (hm : Ent.blk b (.cells cs T fz) ∈ N ++ H) (hc : cs[i]? = some v) : CellIn (Kept (S ++ (N ++ H))) b i v := cK (List.mem_append_right S hm) hc
theorem csN {b i : Nat} {cs : Array Value} {T : TypeId} {fz : Nat × Nat} (hm : Ent.blk b (.cells cs T fz) ∈ N ++ H) (hc : CellsAt cs i xs) : CellsIn (fun w => St w0 w S N H) b i xs := csS (List.mem_append_right S hm) hc
theorem csKN {b i : Nat} {cs : Array Value} {T : TypeId} {fz : Nat × Nat} (hm : Ent.blk b (.cells cs T fz) ∈ N ++ H) (hc : CellsAt cs i xs) : CellsIn (Kept (S ++ (N ++ H))) b i xs := csK (List.mem_append_right S hm) hc
abbrev nest (k : Ek α) (V : Value) (gs : List (Value × List α)) : Hp := .rd V 1 gs.length (gs.map (·.1)) :: gs.map fun x => rdE k x.1 x.2
theorem nestS [Inhabited α] {k : Ek α} {gs : List (Value × List α)} {j : Int} (h : ∀ x ∈ gs, rdE k x.1 x.2 ∈ S) (hj : 0 ≤ j ∧ j < gs.length) : RdIn (fun w => St w0 w S N H) (gE gs j).1 k.sz (gE gs j).2.length (k.all (gE gs j).2) := by
  refine rS (List.mem_append_left _ (h _ ?_))
  unfold gE
  rw [List.getD_eq_getElem?_getD, List.getElem?_eq_getElem (by omega)]
  exact List.getElem_mem _
theorem nestK [Inhabited α] {k : Ek α} {gs : List (Value × List α)} {j : Int} (h : ∀ x ∈ gs, rdE k x.1 x.2 ∈ S) (hj : 0 ≤ j ∧ j < gs.length) : RdIn (Kept (S ++ (N ++ H))) (gE gs j).1 k.sz (gE gs j).2.length (k.all (gE gs j).2) := by
  refine rK (List.mem_append_left _ (h _ ?_))
  unfold gE
  rw [List.getD_eq_getElem?_getD, List.getElem?_eq_getElem (by omega)]
  exact List.getElem_mem _
theorem nestGet [Inhabited α] {gs : List (Value × List α)} {j : Int} (hj : 0 ≤ j ∧ j < gs.length) : (gs.map (·.1))[j.toNat * 1]? = some (gE gs j).1 := by
  unfold gE
  rw [Nat.mul_one, List.getElem?_map, List.getD_eq_getElem?_getD, List.getElem?_eq_getElem (by omega)]; rfl
end
theorem keepOf {L L' : Hp} (h : L.Sublist L') : ∀ e ∈ L, e ∈ L' := fun _ he => h.subset he
structure Itm where
  key : Int
  ver : Int
  data : Int
instance : Inhabited Itm := ⟨⟨0, 0, 0⟩⟩
theorem Itm.ext' {a b : Itm} (h1 : a.key = b.key) (h2 : a.ver = b.ver) (h3 : a.data = b.data) : a = b := by cases a; cases b; simp_all
instance : DecidableEq Itm := fun a b => if h : a.key = b.key ∧ a.ver = b.ver ∧ a.data = b.data then isTrue (Itm.ext' h.1 h.2.1 h.2.2) else isFalse fun e => h (by subst e; exact ⟨rfl, rfl, rfl⟩)
abbrev iK : Ek Itm := ⟨fun x => [.int .i64 x.key, .int .i64 x.ver, .int .i64 x.data], 3, fun _ => rfl, fun _ v hv => by
  simp at hv; rcases hv with rfl | rfl | rfl <;> rfl⟩
theorem iK_eqb {x y : Itm} : ((x.key == y.key) && ((x.ver == y.ver) && ((x.data == y.data) && true))) = decide (x = y) := by
  rw [Bool.eq_iff_iff]; simp; exact ⟨fun ⟨h1, h2, h3⟩ => Itm.ext' h1 h2 h3, fun e => by subst e; exact ⟨rfl, rfl, rfl⟩⟩
abbrev zK : Ek Int := ⟨fun x => [.int .i64 x], 1, fun _ => rfl, fun _ v hv => by
  simp at hv; subst hv; rfl⟩
end Go.Proofs.YtbolanigdkgbdaaGreat
namespace Go.Proofs.YtbolanigdkgbdaaGreat
open Go Go.RowKit
set_option linter.unusedSectionVars false
class FO (P : Program) (s f : Nat) (off : outParam Nat) : Prop where
  h : fieldOff? P s f = some off
section
variable [Df] {P : Program} {n : Nat} {l : Fr} {C : World → Prop} {g : Bool} {d : Option Tmp} {ty : TypeId} {pos : String} {af : Array Edge} {gd : Option (Nat × Bool)}
theorem R.fa {x : Operand} {s f b i off : Nat} [fo : FO P s f off] (hx : Ev n l g x (.pointer (some ⟨b, i, none⟩))) :
    RunsC P n l C g ⟨d, .fieldAddr s x f, ty, pos, af, gd⟩ (.pointer (some ⟨b, i + off, none⟩)) := R.fieldAddr fo.h hx
class US (P : Program) (T : TypeId) (E : outParam TypeId) : Prop where
  h : P.underlying T = some (.slice E)
class SZ (P : Program) (T : TypeId) (m : outParam Nat) : Prop where
  h : (P.info? T).map (·.size) = some m
class UA (P : Program) (T : TypeId) (m : outParam Nat) : Prop where
  h : ∃ D, P.underlying T = some D ∧ plainD D = false ∧ (P.info? T).map (·.size) = some m
theorem UA.mk' {P : Program} {T : TypeId} {D : TypeDesc} {m : Nat} (h : P.underlying T = some D) (hD : plainD D = false) (hs : (P.info? T).map (·.size) = some m) : UA P T m := ⟨D, h, hD, hs⟩
class UL (P : Program) (T : TypeId) : Prop where
  h : ∃ D, P.underlying T = some D ∧ plainD D = true
theorem UL.mk' {P : Program} {T : TypeId} {D : TypeDesc} (h : P.underlying T = some D) (hD : plainD D = true) : UL P T := ⟨D, h, hD⟩
theorem R.lu {x : Operand} {T : TypeId} {b i : Nat} {v : Value} [u : UL P T] (hx : Ev n l g x (.pointer (some ⟨b, i, none⟩))) (hc : CellIn C b i v) :
    RunsC P n l C g ⟨d, .load T x, ty, pos, af, gd⟩ v := by
  obtain ⟨D, h, hD⟩ := u.h
  exact R.load h hD hx hc
theorem R.la {x : Operand} {T : TypeId} {b i m : Nat} {vs : List Value} [u : UA P T m] (hm : vs.length = m) (hx : Ev n l g x (.pointer (some ⟨b, i, none⟩))) (hc : CellsIn C b i vs) : RunsC P n l C g ⟨d, .load T x, ty, pos, af, gd⟩ (.agg vs.toArray) := by
  obtain ⟨D, h, hD, hs⟩ := u.h
  subst hm
  exact R.loadAgg h hD hs hx hc
theorem R.la3 {x : Operand} {T : TypeId} {b i : Nat} {a0 a1 a2 : Value} [u : UA P T 3] (hx : Ev n l g x (.pointer (some ⟨b, i, none⟩))) (hc : CellsIn C b i [a0, a1, a2]) : RunsC P n l C g ⟨d, .load T x, ty, pos, af, gd⟩ (.agg #[a0, a1, a2]) := R.la rfl hx hc
theorem R.la4 {x : Operand} {T : TypeId} {b i : Nat} {a0 a1 a2 a3 : Value} [u : UA P T 4] (hx : Ev n l g x (.pointer (some ⟨b, i, none⟩))) (hc : CellsIn C b i [a0, a1, a2, a3]) : RunsC P n l C g ⟨d, .load T x, ty, pos, af, gd⟩ (.agg #[a0, a1, a2, a3]) := R.la rfl hx hc
theorem R.la5 {x : Operand} {T : TypeId} {b i : Nat} {a0 a1 a2 a3 a4 : Value} [u : UA P T 5] (hx : Ev n l g x (.pointer (some ⟨b, i, none⟩))) (hc : CellsIn C b i [a0, a1, a2, a3, a4]) : RunsC P n l C g ⟨d, .load T x, ty, pos, af, gd⟩ (.agg #[a0, a1, a2, a3, a4]) := R.la rfl hx hc
theorem R.la7 {x : Operand} {T : TypeId} {b i : Nat} {a0 a1 a2 a3 a4 a5 a6 : Value} [u : UA P T 7] (hx : Ev n l g x (.pointer (some ⟨b, i, none⟩))) (hc : CellsIn C b i [a0, a1, a2, a3, a4, a5, a6]) : RunsC P n l C g ⟨d, .load T x, ty, pos, af, gd⟩ (.agg #[a0, a1, a2, a3, a4, a5, a6]) := R.la rfl hx hc
theorem R.eqF {k : IntKind} {a b : Int} {T U : TypeId} {x y : Operand} (hx : Ev n l g x (.int k a)) (hy : Ev n l g y (.int k b)) (h : ¬ a = b) : RunsC P n l C g ⟨d, .binOp .eql T x y U, ty, pos, af, gd⟩ (.bool false) := R.as (R.eql hx hy) fun _ => congrArg Value.bool (decide_eq_false h)
theorem R.eqT {k : IntKind} {a b : Int} {T U : TypeId} {x y : Operand} (hx : Ev n l g x (.int k a)) (hy : Ev n l g y (.int k b)) (h : a = b) : RunsC P n l C g ⟨d, .binOp .eql T x y U, ty, pos, af, gd⟩ (.bool true) := R.as (R.eql hx hy) fun _ => congrArg Value.bool (decide_eq_true h)
theorem R.le {x : Operand} {T : TypeId} {E sz m : Nat} {v : Value} {xs : List Value} [u : US P T E] (hx : Ev n l g x v) (hr : RdIn C v sz m xs) :
    RunsC P n l C g ⟨d, .call { callee := .builtin .len, args := #[x], argTypes := #[T] }, ty, pos, af, gd⟩ (.int .i64 m) := R.lenRd u.h hx hr
theorem R.ix {x y : Operand} {T E sz m : Nat} {k : IntKind} {j : Int} {v : Value} {xs : List Value} [u : US P T E] [s : SZ P E sz] (hx : Ev n l g x v) (hr : RdIn C v sz m xs) (hy : Ev n l g y (.int k j))
    (hj : g = true → 0 ≤ j ∧ j < m) : RunsC P n l C g ⟨d, .indexAddr T x y, ty, pos, af, gd⟩ (elemPtr v (j.toNat * sz)) := R.indexRd u.h s.h hx hr hy hj
theorem R.fr {x : Operand} {s f off sz m k : Nat} {v : Value} {xs : List Value} [fo : FO P s f off] (hx : Ev n l g x (elemPtr v k)) (hr : RdIn C v sz m xs) (hm : g = true → 0 < m) :
    RunsC P n l C g ⟨d, .fieldAddr s x f, ty, pos, af, gd⟩ (elemPtr v (k + off)) := R.fieldRd fo.h hx hr hm
theorem R.lr {x : Operand} {T : TypeId} {sz m k : Nat} {v u : Value} {xs : List Value} [t : UL P T] (hx : Ev n l g x (elemPtr v k)) (hr : RdIn C v sz m xs) (hu : g = true → xs[k]? = some u) :
    RunsC P n l C g ⟨d, .load T x, ty, pos, af, gd⟩ u := by
  obtain ⟨D, h, hD⟩ := t.h
  exact R.loadRd h hD hx hr hu
end
def upto : List Oper → Nat → List (Bool × Nat)
  | [], _ => []
  | _ :: r, i => (false, i) :: upto r (i + 1)
theorem upto_eq : ∀ (os : List Oper) (i : Nat), upto os i = (List.range' i os.length).map fun j => (false, j)
  | [], _ => rfl
  | _ :: r, i => by simp only [upto, List.length_cons, List.range'_succ, List.map_cons, upto_eq r (i + 1)]
section
variable [Df] {P : Program} {w0 : World} {n : Nat} {S N H : Hp} {l : Fr} {ops : Array Oper} {C : World → Prop} {K : Act → World → Prop}
theorem At.pl {id : Nat} {Q : Exit → Act → World → Prop} (h : At w0 n S l N H (wpSch P ops (fun _ => True) (Q .normal) (upto ops.toList 0))) : At w0 n S l N H ((Code.region id ops false).wp P Q) :=
  At.plain _ (by rw [upto_eq, List.range_eq_range']; rfl) h
theorem At.nilU {i : Nat} (h : At w0 n S l N H K) : At w0 n S l N H (wpSch P ops C K (upto [] i)) := h
end
def getO : List Oper → Nat → Option Oper
  | [], _ => none
  | o :: _, 0 => some o
  | _ :: r, i + 1 => getO r i
theorem getO_eq : ∀ (os : List Oper) (i : Nat), getO os i = os[i]?
  | [], _ => by simp [getO]
  | _ :: _, 0 => by simp [getO]
  | _ :: r, i + 1 => by simp [getO, getO_eq r i]
def preO (ops : Array Oper) (n : Nat) (l : Fr) (i : Nat) : Option (Oper × Nat × Bool) :=
  match getO ops.toList i with
  | some ⟨some d, op, ty, pos, af, gd⟩ => match Nat.blt d n with
    | true => match wantG ops l ⟨some d, op, ty, pos, af, gd⟩ with
      | some g => some (⟨some d, op, ty, pos, af, gd⟩, d, g)
      | none => none
    | false => none
  | _ => none
theorem preO_ok {ops : Array Oper} {n : Nat} {l : Fr} {i d : Nat} {o : Oper} {g : Bool} (h : preO ops n l i = some (o, d, g)) : ops[i]? = some o ∧ o.dst = some d ∧ Nat.blt d n = true ∧ wantG ops l o = some g := by
  unfold preO at h
  split at h
  · rename_i d' op ty pos af gd ho
    rw [getO_eq, Array.getElem?_toList] at ho
    split at h
    · rename_i hb
      split at h
      · rename_i hw; injection h with h; injection h with h1 h; injection h with h2 h3; subst h1 h2 h3; exact ⟨ho, rfl, hb, hw⟩
      · cases h
    · cases h
  · cases h
section
variable [Df] {P : Program} {w0 : World} {n : Nat} {S N H : Hp} {l : Fr} {ops : Array Oper} {C : World → Prop} {K : Act → World → Prop} {i : Nat} {r : List (Bool × Nat)}
def ES (w0 : World) (n : Nat) (S : Hp) (l : Fr) (N H : Hp) (P : Program) (ops : Array Oper) (C : World → Prop) (K : Act → World → Prop) (i : Nat) (r : List (Bool × Nat)) : Prop := At w0 n S l N H (wpSch P ops C K ((false, i) :: r))
theorem At.e1 (h : ES w0 n S l N H P ops C K i r) : At w0 n S l N H (wpSch P ops C K ((false, i) :: r)) := h
theorem At.eU {o : Oper} {os : List Oper} (h : ES w0 n S l N H P ops C K i (upto os (i + 1))) : At w0 n S l N H (wpSch P ops C K (upto (o :: os) i)) := h
theorem ES.go {d : Nat} {o : Oper} {g : Bool} {v : Value} (hp : preO ops n l i = some (o, d, g)) (hC : Cl w0 S N H C) (hr : RunsC P n l (fun w => St w0 w S N H) g o v)
    (h : At w0 n S ((d, g, v) :: l) N H (wpSch P ops C K r)) : ES w0 n S l N H P ops C K i r := by obtain ⟨ho, hd, hdn, hg⟩ := preO_ok hp; exact At.e ho hd hdn hg hC hr h
def SS (w0 : World) (n : Nat) (S : Hp) (l : Fr) (N H : Hp) (P : Program) (ops : Array Oper) (C : World → Prop) (K : Act → World → Prop) (i : Nat) (r : List (Bool × Nat)) : Prop := At w0 n S l N H (wpSch P ops C K ((true, i) :: r))
theorem At.s1 (h : SS w0 n S l N H P ops C K i r) : At w0 n S l N H (wpSch P ops C K ((true, i) :: r)) := h
theorem SS.go {d : Nat} {o : Oper} {g : Bool} {v : Value} (hp : preO ops n l i = some (o, d, g)) (hC : Cl w0 S N H C) (hr : RunsC P n l C g o v)
    (h : At w0 n S ((d, g, v) :: l) N H (wpSch P ops C K r)) : SS w0 n S l N H P ops C K i r := by obtain ⟨ho, hd, hdn, hg⟩ := preO_ok hp; exact At.s ho hd hdn hg hC hr h
theorem At.plA {id : Nat} {os : List Oper} {Q : Exit → Act → World → Prop} (h : At w0 n S l N H (wpSch P os.toArray (fun _ => True) (Q .normal) (upto os 0))) : At w0 n S l N H ((Code.region id os.toArray false).wp P Q) := At.pl h
end
section
variable [Df] {P : Program} {w0 : World} {n : Nat} {S N H L : Hp} {l : Fr} {Q : Exit → Act → World → Prop}
theorem sl {α : Type} {a b : List α} (h : a.Sublist b := by ((repeat (first | exact List.Sublist.refl _ | exact List.nil_sublist _ | apply List.Sublist.cons_cons | apply List.Sublist.cons | exact List.sublist_append_right _ _ | exact List.sublist_append_left _ _ | apply List.Sublist.append_left | apply List.sublist_append_of_sublist_right)) <;> fail)) : a.Sublist b := h
theorem kz (h : L.Sublist (S ++ (N ++ H)) := by exact sl) : Cl w0 S N H (Kept L) := Cl.kept (keepOf h)
theorem kI : Cl w0 S N H (Kept (S ++ (N ++ H))) := Cl.kept fun _ h => h
def CondAt (w0 : World) (n : Nat) (S : Hp) (l : Fr) (N H : Hp) (P : Program) (c : Operand) (x y : Code) (Q : Exit → Act → World → Prop) : Prop := At w0 n S l N H ((Code.cond c x y).wp P Q)
theorem At.cond1 {c : Operand} {x y : Code} (h : CondAt w0 n S l N H P c x y Q) : At w0 n S l N H ((Code.cond c x y).wp P Q) := h
variable {ops : Array Oper} {C : World → Prop} {K : Act → World → Prop} {i : Nat} {r : List (Bool × Nat)} {d : Nat} {o : Oper} {g : Bool} {v : Value}
theorem eA (hp : preO ops n l i = some (o, d, g)) (hr : RunsC P n l (fun w => St w0 w S N H) g o v) (h : At w0 n S ((d, g, v) :: l) N H (wpSch P ops (fun _ => True) K r)) : At w0 n S l N H (wpSch P ops (fun _ => True) K ((false, i) :: r)) := ES.go hp .all hr h
theorem sC (hp : preO ops n l i = some (o, d, g)) (hC : Cl w0 S N H C) (hr : RunsC P n l C g o v) (h : At w0 n S ((d, g, v) :: l) N H (wpSch P ops C K r)) : At w0 n S l N H (wpSch P ops C K ((true, i) :: r)) := SS.go hp hC hr h
theorem sJ (hp : preO ops n l i = some (o, d, g)) (hr : RunsC P n l (Kept (S ++ (N ++ H))) g o v) (h : At w0 n S ((d, g, v) :: l) N H (wpSch P ops (Kept (S ++ (N ++ H))) K r)) : At w0 n S l N H (wpSch P ops (Kept (S ++ (N ++ H))) K ((true, i) :: r)) := SS.go hp kI hr h
theorem dF {p : Prop} [Decidable p] (h : ¬ p := by omega) {g : Bool} : g = true → Value.bool (decide p) = .bool false := fun _ => congrArg Value.bool (decide_eq_false h)
theorem dT {p : Prop} [Decidable p] (h : p := by omega) {g : Bool} : g = true → Value.bool (decide p) = .bool true := fun _ => congrArg Value.bool (decide_eq_true h)
theorem gO {p : Prop} {g : Bool} (h : g = true → p := by intro hg; omega) : g = true → p := h
abbrev pt (b i : Nat) : Bool × Value := (true, .pointer (some ⟨b, i, none⟩))
abbrev iv (a : Int) : Bool × Value := (true, .int .i64 a)
abbrev bv (a : Bool) : Bool × Value := (true, .bool a)
abbrev tt (i : Nat) : Bool × Nat := (true, i)
abbrev ff (i : Nat) : Bool × Nat := (false, i)
def mF (n : Nat) (fs : List Nat) : Array Bool := ((List.range n).map fun i => !fs.contains i).toArray
def mT (n : Nat) (fs : List Nat) : Array Bool := ((List.range n).map fun i => fs.contains i).toArray
theorem Evs.k {t : Nat} {v : Value} {xs : List Operand} {vs : List Value} (h : look l t = some (true, v)) (r : Evs n l g xs vs) : Evs n l g (.tmp t :: xs) (v :: vs) := .cons (.t h) r
theorem Evs.kc {v : Value} {xs : List Operand} {vs : List Value} (r : Evs n l g xs vs) : Evs n l g (.const v :: xs) (v :: vs) := .cons .c r
theorem wk {l' : Fr} {N' : Hp} {X : Act → World → Prop} (h : At w0 n S l' N' H X) (hl : Sub l l' := by repeat (first | exact .nil | refine .cons rfl ?_)) (hN : N'.Sublist N := by exact sl) : At w0 n S l N H X := At.weak (Sub.look hl) hN h
end
structure Hold (p : Prop) : Prop where
  h : p
theorem W {G' G : Prop} (k : G') (h : Hold G' → G := by
  intro k
  repeat first
    | with_reducible refine At.nil ?_
    | with_reducible refine At.nilU ?_
    | with_reducible refine At.tN ?_
    | with_reducible refine At.seq ?_
    | with_reducible refine At.plA ?_
    | with_reducible refine At.block ?_
    | with_reducible refine At.bN ?_
    | with_reducible refine At.skip ?_
    | with_reducible refine At.ret ?_
    | with_reducible refine At.tR ?_
    | with_reducible refine At.bR ?_
    | with_reducible refine At.exit ?_
    | with_reducible refine At.tE ?_
    | with_reducible refine At.bE ?_
    | (with_reducible refine At.bX ?_ ?_); rfl
    | (with_reducible refine At.cond1 ?_); first | refine At.condT (.t rfl) ?_ | refine At.condF (.t rfl) ?_
    | (first
         | with_reducible refine At.eU ?_
         | with_reducible refine At.e1 ?_
       refine' ES.go rfl (by first | exact .all | exact kI | exact Cl.none | exact kz) _ _
       rotate_left
       first
         | (with_reducible apply R.move); (first | exact .t rfl | exact .c | exact .s rfl)
         | (with_reducible apply R.nilCheckP); (first | exact .t rfl | exact .c | exact .s rfl)
         | (with_reducible apply R.fa); (first | exact .t rfl | exact .c | exact .s rfl)
         | (with_reducible apply R.lu); (first | exact .t rfl | exact .c | exact .s rfl); (first | (apply cS; (first | exact M0 | exact M1 | exact M2 | exact M3 | exact M4 | exact M5 | exact M6 | exact M7 | exact M8 | exact M9); exact rfl) | (apply cN; (first | exact M0 | exact M1 | exact M2 | exact M3 | exact M4 | exact M5 | exact M6 | exact M7 | exact M8 | exact M9); exact rfl))
         | (with_reducible apply R.assign); (first | exact .t rfl | exact .c | exact .s rfl)
         | (with_reducible apply R.pickT); (exact .t rfl); (first | exact .t rfl | exact .c | exact .s rfl)
         | (with_reducible apply R.pickF); (exact .t rfl); (first | exact .t rfl | exact .c | exact .s rfl)
         | (with_reducible apply R.le); (first | exact .t rfl | exact .c | exact .s rfl); (first | (apply wS; first | exact M0 | exact M1 | exact M2 | exact M3 | exact M4 | exact M5 | exact M6 | exact M7 | exact M8 | exact M9) | (apply rS; first | exact M0 | exact M1 | exact M2 | exact M3 | exact M4 | exact M5 | exact M6 | exact M7 | exact M8 | exact M9) | (apply wN; first | exact M0 | exact M1 | exact M2 | exact M3 | exact M4 | exact M5 | exact M6 | exact M7 | exact M8 | exact M9) | (apply rN; first | exact M0 | exact M1 | exact M2 | exact M3 | exact M4 | exact M5 | exact M6 | exact M7 | exact M8 | exact M9))
         | (with_reducible apply R.extract); (first | exact .t rfl | exact .c | exact .s rfl); exact rfl
         | (with_reducible apply R.la4); (first | exact .t rfl | exact .c | exact .s rfl); (first | (apply csS; (first | exact M0 | exact M1 | exact M2 | exact M3 | exact M4 | exact M5 | exact M6 | exact M7 | exact M8 | exact M9); exact ⟨rfl, rfl, rfl, rfl, trivial⟩) | (apply csN; (first | exact M0 | exact M1 | exact M2 | exact M3 | exact M4 | exact M5 | exact M6 | exact M7 | exact M8 | exact M9); exact ⟨rfl, rfl, rfl, rfl, trivial⟩))
         | (with_reducible apply R.la3); (first | exact .t rfl | exact .c | exact .s rfl); (first | (apply csS; (first | exact M0 | exact M1 | exact M2 | exact M3 | exact M4 | exact M5 | exact M6 | exact M7 | exact M8 | exact M9); exact ⟨rfl, rfl, rfl, trivial⟩) | (apply csN; (first | exact M0 | exact M1 | exact M2 | exact M3 | exact M4 | exact M5 | exact M6 | exact M7 | exact M8 | exact M9); exact ⟨rfl, rfl, rfl, trivial⟩))
         | (with_reducible apply R.la5); (first | exact .t rfl | exact .c | exact .s rfl); (first | (apply csS; (first | exact M0 | exact M1 | exact M2 | exact M3 | exact M4 | exact M5 | exact M6 | exact M7 | exact M8 | exact M9); exact ⟨rfl, rfl, rfl, rfl, rfl, trivial⟩) | (apply csN; (first | exact M0 | exact M1 | exact M2 | exact M3 | exact M4 | exact M5 | exact M6 | exact M7 | exact M8 | exact M9); exact ⟨rfl, rfl, rfl, rfl, rfl, trivial⟩))
         | (with_reducible apply R.la7); (first | exact .t rfl | exact .c | exact .s rfl); (first | (apply csS; (first | exact M0 | exact M1 | exact M2 | exact M3 | exact M4 | exact M5 | exact M6 | exact M7 | exact M8 | exact M9); exact ⟨rfl, rfl, rfl, rfl, rfl, rfl, rfl, trivial⟩) | (apply csN; (first | exact M0 | exact M1 | exact M2 | exact M3 | exact M4 | exact M5 | exact M6 | exact M7 | exact M8 | exact M9); exact ⟨rfl, rfl, rfl, rfl, rfl, rfl, rfl, trivial⟩))
         | (with_reducible apply R.addI); (first | exact .t rfl | exact .c | exact .s rfl); (first | exact .t rfl | exact .c | exact .s rfl); (intro hg; omega)
         | (with_reducible apply R.subI); (first | exact .t rfl | exact .c | exact .s rfl); (first | exact .t rfl | exact .c | exact .s rfl); (intro hg; omega)
         | (with_reducible apply R.mulI); (first | exact .t rfl | exact .c | exact .s rfl); (first | exact .t rfl | exact .c | exact .s rfl); (intro hg; omega)
         | (with_reducible apply R.ix); (first | exact .t rfl | exact .c | exact .s rfl); (first | (apply wS; first | exact M0 | exact M1 | exact M2 | exact M3 | exact M4 | exact M5 | exact M6 | exact M7 | exact M8 | exact M9) | (apply rS; first | exact M0 | exact M1 | exact M2 | exact M3 | exact M4 | exact M5 | exact M6 | exact M7 | exact M8 | exact M9) | (apply wN; first | exact M0 | exact M1 | exact M2 | exact M3 | exact M4 | exact M5 | exact M6 | exact M7 | exact M8 | exact M9) | (apply rN; first | exact M0 | exact M1 | exact M2 | exact M3 | exact M4 | exact M5 | exact M6 | exact M7 | exact M8 | exact M9)); (first | exact .t rfl | exact .c | exact .s rfl); (intro hg; omega)
         | (with_reducible apply R.lr); (first | exact .t rfl | exact .c | exact .s rfl); (first | (apply wS; first | exact M0 | exact M1 | exact M2 | exact M3 | exact M4 | exact M5 | exact M6 | exact M7 | exact M8 | exact M9) | (apply rS; first | exact M0 | exact M1 | exact M2 | exact M3 | exact M4 | exact M5 | exact M6 | exact M7 | exact M8 | exact M9) | (apply wN; first | exact M0 | exact M1 | exact M2 | exact M3 | exact M4 | exact M5 | exact M6 | exact M7 | exact M8 | exact M9) | (apply rN; first | exact M0 | exact M1 | exact M2 | exact M3 | exact M4 | exact M5 | exact M6 | exact M7 | exact M8 | exact M9)); (intro hg; first | exact Ek.get0 rfl (by omega) | exact Ek.getN rfl (by omega) | exact Ek.getM rfl)
         | (with_reducible apply R.fr); (first | exact .t rfl | exact .c | exact .s rfl); (first | (apply wS; first | exact M0 | exact M1 | exact M2 | exact M3 | exact M4 | exact M5 | exact M6 | exact M7 | exact M8 | exact M9) | (apply rS; first | exact M0 | exact M1 | exact M2 | exact M3 | exact M4 | exact M5 | exact M6 | exact M7 | exact M8 | exact M9) | (apply wN; first | exact M0 | exact M1 | exact M2 | exact M3 | exact M4 | exact M5 | exact M6 | exact M7 | exact M8 | exact M9) | (apply rN; first | exact M0 | exact M1 | exact M2 | exact M3 | exact M4 | exact M5 | exact M6 | exact M7 | exact M8 | exact M9)); (intro hg; omega)
         | (with_reducible apply R.nilCheckE); (first | exact .t rfl | exact .c | exact .s rfl); assumption
         | (with_reducible apply R.fieldE); exact FO.h; (first | exact .t rfl | exact .c | exact .s rfl); assumption
         | (with_reducible apply R.pickAnd); (exact .t rfl); exact rfl; (intro hg h; rw [h]; rfl)
         | (with_reducible apply R.pickOr); (exact .t rfl); exact rfl; (intro hg h; rw [h]; rfl)
         | (with_reducible apply R.indexN); exact US.h; exact SZ.h; (first | exact .t rfl | exact .c | exact .s rfl); assumption; (first | exact .t rfl | exact .c | exact .s rfl); (intro hg; exact midB))
    | (with_reducible refine At.s1 ?_
       refine' SS.go rfl (by first | exact kI | exact Cl.none | exact kz) _ _
       rotate_left
       first
         | (with_reducible apply R.move); (first | exact .t rfl | exact .c | exact .s rfl)
         | (with_reducible apply R.nilCheckP); (first | exact .t rfl | exact .c | exact .s rfl)
         | (with_reducible apply R.fa); (first | exact .t rfl | exact .c | exact .s rfl)
         | (with_reducible apply R.lu); (first | exact .t rfl | exact .c | exact .s rfl); (first | (apply cK; (first | exact M0 | exact M1 | exact M2 | exact M3 | exact M4 | exact M5 | exact M6 | exact M7 | exact M8 | exact M9); exact rfl) | (apply cKN; (first | exact M0 | exact M1 | exact M2 | exact M3 | exact M4 | exact M5 | exact M6 | exact M7 | exact M8 | exact M9); exact rfl))
         | (with_reducible apply R.assign); (first | exact .t rfl | exact .c | exact .s rfl)
         | (with_reducible apply R.pickT); (exact .t rfl); (first | exact .t rfl | exact .c | exact .s rfl)
         | (with_reducible apply R.pickF); (exact .t rfl); (first | exact .t rfl | exact .c | exact .s rfl)
         | (with_reducible apply R.le); (first | exact .t rfl | exact .c | exact .s rfl); (first | (apply wK; first | exact M0 | exact M1 | exact M2 | exact M3 | exact M4 | exact M5 | exact M6 | exact M7 | exact M8 | exact M9) | (apply rK; first | exact M0 | exact M1 | exact M2 | exact M3 | exact M4 | exact M5 | exact M6 | exact M7 | exact M8 | exact M9) | (apply wKN; first | exact M0 | exact M1 | exact M2 | exact M3 | exact M4 | exact M5 | exact M6 | exact M7 | exact M8 | exact M9) | (apply rKN; first | exact M0 | exact M1 | exact M2 | exact M3 | exact M4 | exact M5 | exact M6 | exact M7 | exact M8 | exact M9))
         | (with_reducible apply R.extract); (first | exact .t rfl | exact .c | exact .s rfl); exact rfl
         | (with_reducible apply R.la4); (first | exact .t rfl | exact .c | exact .s rfl); (first | (apply csK; (first | exact M0 | exact M1 | exact M2 | exact M3 | exact M4 | exact M5 | exact M6 | exact M7 | exact M8 | exact M9); exact ⟨rfl, rfl, rfl, rfl, trivial⟩) | (apply csKN; (first | exact M0 | exact M1 | exact M2 | exact M3 | exact M4 | exact M5 | exact M6 | exact M7 | exact M8 | exact M9); exact ⟨rfl, rfl, rfl, rfl, trivial⟩))
         | (with_reducible apply R.la3); (first | exact .t rfl | exact .c | exact .s rfl); (first | (apply csK; (first | exact M0 | exact M1 | exact M2 | exact M3 | exact M4 | exact M5 | exact M6 | exact M7 | exact M8 | exact M9); exact ⟨rfl, rfl, rfl, trivial⟩) | (apply csKN; (first | exact M0 | exact M1 | exact M2 | exact M3 | exact M4 | exact M5 | exact M6 | exact M7 | exact M8 | exact M9); exact ⟨rfl, rfl, rfl, trivial⟩))
         | (with_reducible apply R.la5); (first | exact .t rfl | exact .c | exact .s rfl); (first | (apply csK; (first | exact M0 | exact M1 | exact M2 | exact M3 | exact M4 | exact M5 | exact M6 | exact M7 | exact M8 | exact M9); exact ⟨rfl, rfl, rfl, rfl, rfl, trivial⟩) | (apply csKN; (first | exact M0 | exact M1 | exact M2 | exact M3 | exact M4 | exact M5 | exact M6 | exact M7 | exact M8 | exact M9); exact ⟨rfl, rfl, rfl, rfl, rfl, trivial⟩))
         | (with_reducible apply R.la7); (first | exact .t rfl | exact .c | exact .s rfl); (first | (apply csK; (first | exact M0 | exact M1 | exact M2 | exact M3 | exact M4 | exact M5 | exact M6 | exact M7 | exact M8 | exact M9); exact ⟨rfl, rfl, rfl, rfl, rfl, rfl, rfl, trivial⟩) | (apply csKN; (first | exact M0 | exact M1 | exact M2 | exact M3 | exact M4 | exact M5 | exact M6 | exact M7 | exact M8 | exact M9); exact ⟨rfl, rfl, rfl, rfl, rfl, rfl, rfl, trivial⟩))
         | (with_reducible apply R.addI); (first | exact .t rfl | exact .c | exact .s rfl); (first | exact .t rfl | exact .c | exact .s rfl); (intro hg; omega)
         | (with_reducible apply R.subI); (first | exact .t rfl | exact .c | exact .s rfl); (first | exact .t rfl | exact .c | exact .s rfl); (intro hg; omega)
         | (with_reducible apply R.mulI); (first | exact .t rfl | exact .c | exact .s rfl); (first | exact .t rfl | exact .c | exact .s rfl); (intro hg; omega)
         | (with_reducible apply R.ix); (first | exact .t rfl | exact .c | exact .s rfl); (first | (apply wK; first | exact M0 | exact M1 | exact M2 | exact M3 | exact M4 | exact M5 | exact M6 | exact M7 | exact M8 | exact M9) | (apply rK; first | exact M0 | exact M1 | exact M2 | exact M3 | exact M4 | exact M5 | exact M6 | exact M7 | exact M8 | exact M9) | (apply wKN; first | exact M0 | exact M1 | exact M2 | exact M3 | exact M4 | exact M5 | exact M6 | exact M7 | exact M8 | exact M9) | (apply rKN; first | exact M0 | exact M1 | exact M2 | exact M3 | exact M4 | exact M5 | exact M6 | exact M7 | exact M8 | exact M9)); (first | exact .t rfl | exact .c | exact .s rfl); (intro hg; omega)
         | (with_reducible apply R.lr); (first | exact .t rfl | exact .c | exact .s rfl); (first | (apply wK; first | exact M0 | exact M1 | exact M2 | exact M3 | exact M4 | exact M5 | exact M6 | exact M7 | exact M8 | exact M9) | (apply rK; first | exact M0 | exact M1 | exact M2 | exact M3 | exact M4 | exact M5 | exact M6 | exact M7 | exact M8 | exact M9) | (apply wKN; first | exact M0 | exact M1 | exact M2 | exact M3 | exact M4 | exact M5 | exact M6 | exact M7 | exact M8 | exact M9) | (apply rKN; first | exact M0 | exact M1 | exact M2 | exact M3 | exact M4 | exact M5 | exact M6 | exact M7 | exact M8 | exact M9)); (intro hg; first | exact Ek.get0 rfl (by omega) | exact Ek.getN rfl (by omega) | exact Ek.getM rfl)
         | (with_reducible apply R.fr); (first | exact .t rfl | exact .c | exact .s rfl); (first | (apply wK; first | exact M0 | exact M1 | exact M2 | exact M3 | exact M4 | exact M5 | exact M6 | exact M7 | exact M8 | exact M9) | (apply rK; first | exact M0 | exact M1 | exact M2 | exact M3 | exact M4 | exact M5 | exact M6 | exact M7 | exact M8 | exact M9) | (apply wKN; first | exact M0 | exact M1 | exact M2 | exact M3 | exact M4 | exact M5 | exact M6 | exact M7 | exact M8 | exact M9) | (apply rKN; first | exact M0 | exact M1 | exact M2 | exact M3 | exact M4 | exact M5 | exact M6 | exact M7 | exact M8 | exact M9)); (intro hg; omega)
         | (with_reducible apply R.nilCheckE); (first | exact .t rfl | exact .c | exact .s rfl); assumption
         | (with_reducible apply R.fieldE); exact FO.h; (first | exact .t rfl | exact .c | exact .s rfl); assumption
         | (with_reducible apply R.pickAnd); (exact .t rfl); exact rfl; (intro hg h; rw [h]; rfl)
         | (with_reducible apply R.pickOr); (exact .t rfl); exact rfl; (intro hg h; rw [h]; rfl)
         | (with_reducible apply R.indexN); exact US.h; exact SZ.h; (first | exact .t rfl | exact .c | exact .s rfl); assumption; (first | exact .t rfl | exact .c | exact .s rfl); (intro hg; exact midB))
  exact k.h) : G := h ⟨k⟩
theorem V {G' G : Prop} (k : G') (h : Hold G' → G := by
  intro k
  repeat first
    | (first
         | with_reducible refine At.eU ?_
         | with_reducible refine At.e1 ?_
       refine' ES.go rfl (by first | exact .all | exact kI | exact Cl.none | exact kz) _ _
       rotate_left
       first
         | (with_reducible apply R.move); (first | exact .t rfl | exact .c | exact .s rfl)
         | (with_reducible apply R.nilCheckP); (first | exact .t rfl | exact .c | exact .s rfl)
         | (with_reducible apply R.fa); (first | exact .t rfl | exact .c | exact .s rfl)
         | (with_reducible apply R.lu); (first | exact .t rfl | exact .c | exact .s rfl); (first | (apply cS; (first | exact M0 | exact M1 | exact M2 | exact M3 | exact M4 | exact M5 | exact M6 | exact M7 | exact M8 | exact M9); exact rfl) | (apply cN; (first | exact M0 | exact M1 | exact M2 | exact M3 | exact M4 | exact M5 | exact M6 | exact M7 | exact M8 | exact M9); exact rfl))
         | (with_reducible apply R.assign); (first | exact .t rfl | exact .c | exact .s rfl)
         | (with_reducible apply R.pickT); (exact .t rfl); (first | exact .t rfl | exact .c | exact .s rfl)
         | (with_reducible apply R.pickF); (exact .t rfl); (first | exact .t rfl | exact .c | exact .s rfl)
         | (with_reducible apply R.le); (first | exact .t rfl | exact .c | exact .s rfl); (first | (apply wS; first | exact M0 | exact M1 | exact M2 | exact M3 | exact M4 | exact M5 | exact M6 | exact M7 | exact M8 | exact M9) | (apply rS; first | exact M0 | exact M1 | exact M2 | exact M3 | exact M4 | exact M5 | exact M6 | exact M7 | exact M8 | exact M9) | (apply wN; first | exact M0 | exact M1 | exact M2 | exact M3 | exact M4 | exact M5 | exact M6 | exact M7 | exact M8 | exact M9) | (apply rN; first | exact M0 | exact M1 | exact M2 | exact M3 | exact M4 | exact M5 | exact M6 | exact M7 | exact M8 | exact M9))
         | (with_reducible apply R.extract); (first | exact .t rfl | exact .c | exact .s rfl); exact rfl
         | (with_reducible apply R.la4); (first | exact .t rfl | exact .c | exact .s rfl); (first | (apply csS; (first | exact M0 | exact M1 | exact M2 | exact M3 | exact M4 | exact M5 | exact M6 | exact M7 | exact M8 | exact M9); exact ⟨rfl, rfl, rfl, rfl, trivial⟩) | (apply csN; (first | exact M0 | exact M1 | exact M2 | exact M3 | exact M4 | exact M5 | exact M6 | exact M7 | exact M8 | exact M9); exact ⟨rfl, rfl, rfl, rfl, trivial⟩))
         | (with_reducible apply R.la3); (first | exact .t rfl | exact .c | exact .s rfl); (first | (apply csS; (first | exact M0 | exact M1 | exact M2 | exact M3 | exact M4 | exact M5 | exact M6 | exact M7 | exact M8 | exact M9); exact ⟨rfl, rfl, rfl, trivial⟩) | (apply csN; (first | exact M0 | exact M1 | exact M2 | exact M3 | exact M4 | exact M5 | exact M6 | exact M7 | exact M8 | exact M9); exact ⟨rfl, rfl, rfl, trivial⟩))
         | (with_reducible apply R.la5); (first | exact .t rfl | exact .c | exact .s rfl); (first | (apply csS; (first | exact M0 | exact M1 | exact M2 | exact M3 | exact M4 | exact M5 | exact M6 | exact M7 | exact M8 | exact M9); exact ⟨rfl, rfl, rfl, rfl, rfl, trivial⟩) | (apply csN; (first | exact M0 | exact M1 | exact M2 | exact M3 | exact M4 | exact M5 | exact M6 | exact M7 | exact M8 | exact M9); exact ⟨rfl, rfl, rfl, rfl, rfl, trivial⟩))
         | (with_reducible apply R.la7); (first | exact .t rfl | exact .c | exact .s rfl); (first | (apply csS; (first | exact M0 | exact M1 | exact M2 | exact M3 | exact M4 | exact M5 | exact M6 | exact M7 | exact M8 | exact M9); exact ⟨rfl, rfl, rfl, rfl, rfl, rfl, rfl, trivial⟩) | (apply csN; (first | exact M0 | exact M1 | exact M2 | exact M3 | exact M4 | exact M5 | exact M6 | exact M7 | exact M8 | exact M9); exact ⟨rfl, rfl, rfl, rfl, rfl, rfl, rfl, trivial⟩))
         | (with_reducible apply R.addI); (first | exact .t rfl | exact .c | exact .s rfl); (first | exact .t rfl | exact .c | exact .s rfl); (intro hg; omega)
         | (with_reducible apply R.subI); (first | exact .t rfl | exact .c | exact .s rfl); (first | exact .t rfl | exact .c | exact .s rfl); (intro hg; omega)
         | (with_reducible apply R.mulI); (first | exact .t rfl | exact .c | exact .s rfl); (first | exact .t rfl | exact .c | exact .s rfl); (intro hg; omega)
         | (with_reducible apply R.ix); (first | exact .t rfl | exact .c | exact .s rfl); (first | (apply wS; first | exact M0 | exact M1 | exact M2 | exact M3 | exact M4 | exact M5 | exact M6 | exact M7 | exact M8 | exact M9) | (apply rS; first | exact M0 | exact M1 | exact M2 | exact M3 | exact M4 | exact M5 | exact M6 | exact M7 | exact M8 | exact M9) | (apply wN; first | exact M0 | exact M1 | exact M2 | exact M3 | exact M4 | exact M5 | exact M6 | exact M7 | exact M8 | exact M9) | (apply rN; first | exact M0 | exact M1 | exact M2 | exact M3 | exact M4 | exact M5 | exact M6 | exact M7 | exact M8 | exact M9)); (first | exact .t rfl | exact .c | exact .s rfl); (intro hg; omega)
         | (with_reducible apply R.lr); (first | exact .t rfl | exact .c | exact .s rfl); (first | (apply wS; first | exact M0 | exact M1 | exact M2 | exact M3 | exact M4 | exact M5 | exact M6 | exact M7 | exact M8 | exact M9) | (apply rS; first | exact M0 | exact M1 | exact M2 | exact M3 | exact M4 | exact M5 | exact M6 | exact M7 | exact M8 | exact M9) | (apply wN; first | exact M0 | exact M1 | exact M2 | exact M3 | exact M4 | exact M5 | exact M6 | exact M7 | exact M8 | exact M9) | (apply rN; first | exact M0 | exact M1 | exact M2 | exact M3 | exact M4 | exact M5 | exact M6 | exact M7 | exact M8 | exact M9)); (intro hg; first | exact Ek.get0 rfl (by omega) | exact Ek.getN rfl (by omega) | exact Ek.getM rfl)
         | (with_reducible apply R.fr); (first | exact .t rfl | exact .c | exact .s rfl); (first | (apply wS; first | exact M0 | exact M1 | exact M2 | exact M3 | exact M4 | exact M5 | exact M6 | exact M7 | exact M8 | exact M9) | (apply rS; first | exact M0 | exact M1 | exact M2 | exact M3 | exact M4 | exact M5 | exact M6 | exact M7 | exact M8 | exact M9) | (apply wN; first | exact M0 | exact M1 | exact M2 | exact M3 | exact M4 | exact M5 | exact M6 | exact M7 | exact M8 | exact M9) | (apply rN; first | exact M0 | exact M1 | exact M2 | exact M3 | exact M4 | exact M5 | exact M6 | exact M7 | exact M8 | exact M9)); (intro hg; omega)
         | (with_reducible apply R.nilCheckE); (first | exact .t rfl | exact .c | exact .s rfl); assumption
         | (with_reducible apply R.fieldE); exact FO.h; (first | exact .t rfl | exact .c | exact .s rfl); assumption
         | (with_reducible apply R.pickAnd); (exact .t rfl); exact rfl; (intro hg h; rw [h]; rfl)
         | (with_reducible apply R.pickOr); (exact .t rfl); exact rfl; (intro hg h; rw [h]; rfl)
         | (with_reducible apply R.indexN); exact US.h; exact SZ.h; (first | exact .t rfl | exact .c | exact .s rfl); assumption; (first | exact .t rfl | exact .c | exact .s rfl); (intro hg; exact midB))
    | (with_reducible refine At.s1 ?_
       refine' SS.go rfl (by first | exact kI | exact Cl.none | exact kz) _ _
       rotate_left
       first
         | (with_reducible apply R.move); (first | exact .t rfl | exact .c | exact .s rfl)
         | (with_reducible apply R.nilCheckP); (first | exact .t rfl | exact .c | exact .s rfl)
         | (with_reducible apply R.fa); (first | exact .t rfl | exact .c | exact .s rfl)
         | (with_reducible apply R.lu); (first | exact .t rfl | exact .c | exact .s rfl); (first | (apply cK; (first | exact M0 | exact M1 | exact M2 | exact M3 | exact M4 | exact M5 | exact M6 | exact M7 | exact M8 | exact M9); exact rfl) | (apply cKN; (first | exact M0 | exact M1 | exact M2 | exact M3 | exact M4 | exact M5 | exact M6 | exact M7 | exact M8 | exact M9); exact rfl))
         | (with_reducible apply R.assign); (first | exact .t rfl | exact .c | exact .s rfl)
         | (with_reducible apply R.pickT); (exact .t rfl); (first | exact .t rfl | exact .c | exact .s rfl)
         | (with_reducible apply R.pickF); (exact .t rfl); (first | exact .t rfl | exact .c | exact .s rfl)
         | (with_reducible apply R.le); (first | exact .t rfl | exact .c | exact .s rfl); (first | (apply wK; first | exact M0 | exact M1 | exact M2 | exact M3 | exact M4 | exact M5 | exact M6 | exact M7 | exact M8 | exact M9) | (apply rK; first | exact M0 | exact M1 | exact M2 | exact M3 | exact M4 | exact M5 | exact M6 | exact M7 | exact M8 | exact M9) | (apply wKN; first | exact M0 | exact M1 | exact M2 | exact M3 | exact M4 | exact M5 | exact M6 | exact M7 | exact M8 | exact M9) | (apply rKN; first | exact M0 | exact M1 | exact M2 | exact M3 | exact M4 | exact M5 | exact M6 | exact M7 | exact M8 | exact M9))
         | (with_reducible apply R.extract); (first | exact .t rfl | exact .c | exact .s rfl); exact rfl
         | (with_reducible apply R.la4); (first | exact .t rfl | exact .c | exact .s rfl); (first | (apply csK; (first | exact M0 | exact M1 | exact M2 | exact M3 | exact M4 | exact M5 | exact M6 | exact M7 | exact M8 | exact M9); exact ⟨rfl, rfl, rfl, rfl, trivial⟩) | (apply csKN; (first | exact M0 | exact M1 | exact M2 | exact M3 | exact M4 | exact M5 | exact M6 | exact M7 | exact M8 | exact M9); exact ⟨rfl, rfl, rfl, rfl, trivial⟩))
         | (with_reducible apply R.la3); (first | exact .t rfl | exact .c | exact .s rfl); (first | (apply csK; (first | exact M0 | exact M1 | exact M2 | exact M3 | exact M4 | exact M5 | exact M6 | exact M7 | exact M8 | exact M9); exact ⟨rfl, rfl, rfl, trivial⟩) | (apply csKN; (first | exact M0 | exact M1 | exact M2 | exact M3 | exact M4 | exact M5 | exact M6 | exact M7 | exact M8 | exact M9); exact ⟨rfl, rfl, rfl, trivial⟩))
         | (with_reducible apply R.la5); (first | exact .t rfl | exact .c | exact .s rfl); (first | (apply csK; (first | exact M0 | exact M1 | exact M2 | exact M3 | exact M4 | exact M5 | exact M6 | exact M7 | exact M8 | exact M9); exact ⟨rfl, rfl, rfl, rfl, rfl, trivial⟩) | (apply csKN; (first | exact M0 | exact M1 | exact M2 | exact M3 | exact M4 | exact M5 | exact M6 | exact M7 | exact M8 | exact M9); exact ⟨rfl, rfl, rfl, rfl, rfl, trivial⟩))
         | (with_reducible apply R.la7); (first | exact .t rfl | exact .c | exact .s rfl); (first | (apply csK; (first | exact M0 | exact M1 | exact M2 | exact M3 | exact M4 | exact M5 | exact M6 | exact M7 | exact M8 | exact M9); exact ⟨rfl, rfl, rfl, rfl, rfl, rfl, rfl, trivial⟩) | (apply csKN; (first | exact M0 | exact M1 | exact M2 | exact M3 | exact M4 | exact M5 | exact M6 | exact M7 | exact M8 | exact M9); exact ⟨rfl, rfl, rfl, rfl, rfl, rfl, rfl, trivial⟩))
         | (with_reducible apply R.addI); (first | exact .t rfl | exact .c | exact .s rfl); (first | exact .t rfl | exact .c | exact .s rfl); (intro hg; omega)
         | (with_reducible apply R.subI); (first | exact .t rfl | exact .c | exact .s rfl); (first | exact .t rfl | exact .c | exact .s rfl); (intro hg; omega)
         | (with_reducible apply R.mulI); (first | exact .t rfl | exact .c | exact .s rfl); (first | exact .t rfl | exact .c | exact .s rfl); (intro hg; omega)
         | (with_reducible apply R.ix); (first | exact .t rfl | exact .c | exact .s rfl); (first | (apply wK; first | exact M0 | exact M1 | exact M2 | exact M3 | exact M4 | exact M5 | exact M6 | exact M7 | exact M8 | exact M9) | (apply rK; first | exact M0 | exact M1 | exact M2 | exact M3 | exact M4 | exact M5 | exact M6 | exact M7 | exact M8 | exact M9) | (apply wKN; first | exact M0 | exact M1 | exact M2 | exact M3 | exact M4 | exact M5 | exact M6 | exact M7 | exact M8 | exact M9) | (apply rKN; first | exact M0 | exact M1 | exact M2 | exact M3 | exact M4 | exact M5 | exact M6 | exact M7 | exact M8 | exact M9)); (first | exact .t rfl | exact .c | exact .s rfl); (intro hg; omega)
         | (with_reducible apply R.lr); (first | exact .t rfl | exact .c | exact .s rfl); (first | (apply wK; first | exact M0 | exact M1 | exact M2 | exact M3 | exact M4 | exact M5 | exact M6 | exact M7 | exact M8 | exact M9) | (apply rK; first | exact M0 | exact M1 | exact M2 | exact M3 | exact M4 | exact M5 | exact M6 | exact M7 | exact M8 | exact M9) | (apply wKN; first | exact M0 | exact M1 | exact M2 | exact M3 | exact M4 | exact M5 | exact M6 | exact M7 | exact M8 | exact M9) | (apply rKN; first | exact M0 | exact M1 | exact M2 | exact M3 | exact M4 | exact M5 | exact M6 | exact M7 | exact M8 | exact M9)); (intro hg; first | exact Ek.get0 rfl (by omega) | exact Ek.getN rfl (by omega) | exact Ek.getM rfl)
         | (with_reducible apply R.fr); (first | exact .t rfl | exact .c | exact .s rfl); (first | (apply wK; first | exact M0 | exact M1 | exact M2 | exact M3 | exact M4 | exact M5 | exact M6 | exact M7 | exact M8 | exact M9) | (apply rK; first | exact M0 | exact M1 | exact M2 | exact M3 | exact M4 | exact M5 | exact M6 | exact M7 | exact M8 | exact M9) | (apply wKN; first | exact M0 | exact M1 | exact M2 | exact M3 | exact M4 | exact M5 | exact M6 | exact M7 | exact M8 | exact M9) | (apply rKN; first | exact M0 | exact M1 | exact M2 | exact M3 | exact M4 | exact M5 | exact M6 | exact M7 | exact M8 | exact M9)); (intro hg; omega)
         | (with_reducible apply R.nilCheckE); (first | exact .t rfl | exact .c | exact .s rfl); assumption
         | (with_reducible apply R.fieldE); exact FO.h; (first | exact .t rfl | exact .c | exact .s rfl); assumption
         | (with_reducible apply R.pickAnd); (exact .t rfl); exact rfl; (intro hg h; rw [h]; rfl)
         | (with_reducible apply R.pickOr); (exact .t rfl); exact rfl; (intro hg h; rw [h]; rfl)
         | (with_reducible apply R.indexN); exact US.h; exact SZ.h; (first | exact .t rfl | exact .c | exact .s rfl); assumption; (first | exact .t rfl | exact .c | exact .s rfl); (intro hg; exact midB))
  exact k.h) : G := h ⟨k⟩
theorem Y {G' G : Prop} (k : G') (h : Hold G' → G := by
  intro k
  repeat first
    | with_reducible refine At.nil ?_
    | with_reducible refine At.nilU ?_
    | with_reducible refine At.tN ?_
    | with_reducible refine At.seq ?_
    | with_reducible refine At.plA ?_
    | with_reducible refine At.block ?_
    | with_reducible refine At.bN ?_
    | with_reducible refine At.skip ?_
    | with_reducible refine At.ret ?_
    | with_reducible refine At.tR ?_
    | with_reducible refine At.bR ?_
    | with_reducible refine At.exit ?_
    | with_reducible refine At.tE ?_
    | with_reducible refine At.bE ?_
    | (with_reducible refine At.bX ?_ ?_); rfl
    | (with_reducible refine At.cond1 ?_); first | refine At.condT (.t rfl) ?_ | refine At.condF (.t rfl) ?_
    | (first
         | with_reducible refine At.eU ?_
         | with_reducible refine At.e1 ?_
       refine' ES.go rfl (by first | exact .all | exact kI | exact Cl.none | exact kz) _ _
       rotate_left
       first
         | (with_reducible apply R.move); (first | exact .t rfl | exact .c | exact .s rfl)
         | (with_reducible apply R.nilCheckP); (first | exact .t rfl | exact .c | exact .s rfl)
         | (with_reducible apply R.fa); (first | exact .t rfl | exact .c | exact .s rfl)
         | (with_reducible apply R.lu); (first | exact .t rfl | exact .c | exact .s rfl); (first | (apply cS; (first | exact M0 | exact M1 | exact M2 | exact M3 | exact M4 | exact M5 | exact M6 | exact M7 | exact M8 | exact M9); exact rfl) | (apply cN; (first | exact M0 | exact M1 | exact M2 | exact M3 | exact M4 | exact M5 | exact M6 | exact M7 | exact M8 | exact M9); exact rfl))
         | (with_reducible apply R.assign); (first | exact .t rfl | exact .c | exact .s rfl)
         | (with_reducible apply R.pickT); (exact .t rfl); (first | exact .t rfl | exact .c | exact .s rfl)
         | (with_reducible apply R.pickF); (exact .t rfl); (first | exact .t rfl | exact .c | exact .s rfl)
         | (with_reducible apply R.le); (first | exact .t rfl | exact .c | exact .s rfl); (first | (apply wS; first | exact M0 | exact M1 | exact M2 | exact M3 | exact M4 | exact M5 | exact M6 | exact M7 | exact M8 | exact M9) | (apply rS; first | exact M0 | exact M1 | exact M2 | exact M3 | exact M4 | exact M5 | exact M6 | exact M7 | exact M8 | exact M9) | (apply wN; first | exact M0 | exact M1 | exact M2 | exact M3 | exact M4 | exact M5 | exact M6 | exact M7 | exact M8 | exact M9) | (apply rN; first | exact M0 | exact M1 | exact M2 | exact M3 | exact M4 | exact M5 | exact M6 | exact M7 | exact M8 | exact M9))
         | (with_reducible apply R.extract); (first | exact .t rfl | exact .c | exact .s rfl); exact rfl
         | (with_reducible apply R.la4); (first | exact .t rfl | exact .c | exact .s rfl); (first | (apply csS; (first | exact M0 | exact M1 | exact M2 | exact M3 | exact M4 | exact M5 | exact M6 | exact M7 | exact M8 | exact M9); exact ⟨rfl, rfl, rfl, rfl, trivial⟩) | (apply csN; (first | exact M0 | exact M1 | exact M2 | exact M3 | exact M4 | exact M5 | exact M6 | exact M7 | exact M8 | exact M9); exact ⟨rfl, rfl, rfl, rfl, trivial⟩))
         | (with_reducible apply R.la3); (first | exact .t rfl | exact .c | exact .s rfl); (first | (apply csS; (first | exact M0 | exact M1 | exact M2 | exact M3 | exact M4 | exact M5 | exact M6 | exact M7 | exact M8 | exact M9); exact ⟨rfl, rfl, rfl, trivial⟩) | (apply csN; (first | exact M0 | exact M1 | exact M2 | exact M3 | exact M4 | exact M5 | exact M6 | exact M7 | exact M8 | exact M9); exact ⟨rfl, rfl, rfl, trivial⟩))
         | (with_reducible apply R.la5); (first | exact .t rfl | exact .c | exact .s rfl); (first | (apply csS; (first | exact M0 | exact M1 | exact M2 | exact M3 | exact M4 | exact M5 | exact M6 | exact M7 | exact M8 | exact M9); exact ⟨rfl, rfl, rfl, rfl, rfl, trivial⟩) | (apply csN; (first | exact M0 | exact M1 | exact M2 | exact M3 | exact M4 | exact M5 | exact M6 | exact M7 | exact M8 | exact M9); exact ⟨rfl, rfl, rfl, rfl, rfl, trivial⟩))
         | (with_reducible apply R.la7); (first | exact .t rfl | exact .c | exact .s rfl); (first | (apply csS; (first | exact M0 | exact M1 | exact M2 | exact M3 | exact M4 | exact M5 | exact M6 | exact M7 | exact M8 | exact M9); exact ⟨rfl, rfl, rfl, rfl, rfl, rfl, rfl, trivial⟩) | (apply csN; (first | exact M0 | exact M1 | exact M2 | exact M3 | exact M4 | exact M5 | exact M6 | exact M7 | exact M8 | exact M9); exact ⟨rfl, rfl, rfl, rfl, rfl, rfl, rfl, trivial⟩))
         | (with_reducible apply R.addI); (first | exact .t rfl | exact .c | exact .s rfl); (first | exact .t rfl | exact .c | exact .s rfl); (intro hg; omega)
         | (with_reducible apply R.subI); (first | exact .t rfl | exact .c | exact .s rfl); (first | exact .t rfl | exact .c | exact .s rfl); (intro hg; omega)
         | (with_reducible apply R.mulI); (first | exact .t rfl | exact .c | exact .s rfl); (first | exact .t rfl | exact .c | exact .s rfl); (intro hg; omega)
         | (with_reducible apply R.ix); (first | exact .t rfl | exact .c | exact .s rfl); (first | (apply wS; first | exact M0 | exact M1 | exact M2 | exact M3 | exact M4 | exact M5 | exact M6 | exact M7 | exact M8 | exact M9) | (apply rS; first | exact M0 | exact M1 | exact M2 | exact M3 | exact M4 | exact M5 | exact M6 | exact M7 | exact M8 | exact M9) | (apply wN; first | exact M0 | exact M1 | exact M2 | exact M3 | exact M4 | exact M5 | exact M6 | exact M7 | exact M8 | exact M9) | (apply rN; first | exact M0 | exact M1 | exact M2 | exact M3 | exact M4 | exact M5 | exact M6 | exact M7 | exact M8 | exact M9)); (first | exact .t rfl | exact .c | exact .s rfl); (intro hg; omega)
         | (with_reducible apply R.lr); (first | exact .t rfl | exact .c | exact .s rfl); (first | (apply wS; first | exact M0 | exact M1 | exact M2 | exact M3 | exact M4 | exact M5 | exact M6 | exact M7 | exact M8 | exact M9) | (apply rS; first | exact M0 | exact M1 | exact M2 | exact M3 | exact M4 | exact M5 | exact M6 | exact M7 | exact M8 | exact M9) | (apply wN; first | exact M0 | exact M1 | exact M2 | exact M3 | exact M4 | exact M5 | exact M6 | exact M7 | exact M8 | exact M9) | (apply rN; first | exact M0 | exact M1 | exact M2 | exact M3 | exact M4 | exact M5 | exact M6 | exact M7 | exact M8 | exact M9)); (intro hg; first | exact Ek.get0 rfl (by omega) | exact Ek.getN rfl (by omega) | exact Ek.getM rfl)
         | (with_reducible apply R.fr); (first | exact .t rfl | exact .c | exact .s rfl); (first | (apply wS; first | exact M0 | exact M1 | exact M2 | exact M3 | exact M4 | exact M5 | exact M6 | exact M7 | exact M8 | exact M9) | (apply rS; first | exact M0 | exact M1 | exact M2 | exact M3 | exact M4 | exact M5 | exact M6 | exact M7 | exact M8 | exact M9) | (apply wN; first | exact M0 | exact M1 | exact M2 | exact M3 | exact M4 | exact M5 | exact M6 | exact M7 | exact M8 | exact M9) | (apply rN; first | exact M0 | exact M1 | exact M2 | exact M3 | exact M4 | exact M5 | exact M6 | exact M7 | exact M8 | exact M9)); (intro hg; omega)
         | (with_reducible apply R.nilCheckE); (first | exact .t rfl | exact .c | exact .s rfl); assumption
         | (with_reducible apply R.fieldE); exact FO.h; (first | exact .t rfl | exact .c | exact .s rfl); assumption
         | (with_reducible apply R.pickAnd); (exact .t rfl); exact rfl; (intro hg h; rw [h]; rfl)
         | (with_reducible apply R.pickOr); (exact .t rfl); exact rfl; (intro hg h; rw [h]; rfl)
         | (with_reducible apply R.indexN); exact US.h; exact SZ.h; (first | exact .t rfl | exact .c | exact .s rfl); assumption; (first | exact .t rfl | exact .c | exact .s rfl); (intro hg; exact midB)
         | (with_reducible apply R.eqF); (first | exact .t rfl | exact .c | exact .s rfl); (first | exact .t rfl | exact .c | exact .s rfl); omega
         | (with_reducible apply R.eqT); (first | exact .t rfl | exact .c | exact .s rfl); (first | exact .t rfl | exact .c | exact .s rfl); first | omega | rfl)
    | (with_reducible refine At.s1 ?_
       refine' SS.go rfl (by first | exact kI | exact Cl.none | exact kz) _ _
       rotate_left
       first
         | (with_reducible apply R.move); (first | exact .t rfl | exact .c | exact .s rfl)
         | (with_reducible apply R.nilCheckP); (first | exact .t rfl | exact .c | exact .s rfl)
         | (with_reducible apply R.fa); (first | exact .t rfl | exact .c | exact .s rfl)
         | (with_reducible apply R.lu); (first | exact .t rfl | exact .c | exact .s rfl); (first | (apply cK; (first | exact M0 | exact M1 | exact M2 | exact M3 | exact M4 | exact M5 | exact M6 | exact M7 | exact M8 | exact M9); exact rfl) | (apply cKN; (first | exact M0 | exact M1 | exact M2 | exact M3 | exact M4 | exact M5 | exact M6 | exact M7 | exact M8 | exact M9); exact rfl))
         | (with_reducible apply R.assign); (first | exact .t rfl | exact .c | exact .s rfl)
         | (with_reducible apply R.pickT); (exact .t rfl); (first | exact .t rfl | exact .c | exact .s rfl)
         | (with_reducible apply R.pickF); (exact .t rfl); (first | exact .t rfl | exact .c | exact .s rfl)
         | (with_reducible apply R.le); (first | exact .t rfl | exact .c | exact .s rfl); (first | (apply wK; first | exact M0 | exact M1 | exact M2 | exact M3 | exact M4 | exact M5 | exact M6 | exact M7 | exact M8 | exact M9) | (apply rK; first | exact M0 | exact M1 | exact M2 | exact M3 | exact M4 | exact M5 | exact M6 | exact M7 | exact M8 | exact M9) | (apply wKN; first | exact M0 | exact M1 | exact M2 | exact M3 | exact M4 | exact M5 | exact M6 | exact M7 | exact M8 | exact M9) | (apply rKN; first | exact M0 | exact M1 | exact M2 | exact M3 | exact M4 | exact M5 | exact M6 | exact M7 | exact M8 | exact M9))
         | (with_reducible apply R.extract); (first | exact .t rfl | exact .c | exact .s rfl); exact rfl
         | (with_reducible apply R.la4); (first | exact .t rfl | exact .c | exact .s rfl); (first | (apply csK; (first | exact M0 | exact M1 | exact M2 | exact M3 | exact M4 | exact M5 | exact M6 | exact M7 | exact M8 | exact M9); exact ⟨rfl, rfl, rfl, rfl, trivial⟩) | (apply csKN; (first | exact M0 | exact M1 | exact M2 | exact M3 | exact M4 | exact M5 | exact M6 | exact M7 | exact M8 | exact M9); exact ⟨rfl, rfl, rfl, rfl, trivial⟩))
         | (with_reducible apply R.la3); (first | exact .t rfl | exact .c | exact .s rfl); (first | (apply csK; (first | exact M0 | exact M1 | exact M2 | exact M3 | exact M4 | exact M5 | exact M6 | exact M7 | exact M8 | exact M9); exact ⟨rfl, rfl, rfl, trivial⟩) | (apply csKN; (first | exact M0 | exact M1 | exact M2 | exact M3 | exact M4 | exact M5 | exact M6 | exact M7 | exact M8 | exact M9); exact ⟨rfl, rfl, rfl, trivial⟩))
         | (with_reducible apply R.la5); (first | exact .t rfl | exact .c | exact .s rfl); (first | (apply csK; (first | exact M0 | exact M1 | exact M2 | exact M3 | exact M4 | exact M5 | exact M6 | exact M7 | exact M8 | exact M9); exact ⟨rfl, rfl, rfl, rfl, rfl, trivial⟩) | (apply csKN; (first | exact M0 | exact M1 | exact M2 | exact M3 | exact M4 | exact M5 | exact M6 | exact M7 | exact M8 | exact M9); exact ⟨rfl, rfl, rfl, rfl, rfl, trivial⟩))
         | (with_reducible apply R.la7); (first | exact .t rfl | exact .c | exact .s rfl); (first | (apply csK; (first | exact M0 | exact M1 | exact M2 | exact M3 | exact M4 | exact M5 | exact M6 | exact M7 | exact M8 | exact M9); exact ⟨rfl, rfl, rfl, rfl, rfl, rfl, rfl, trivial⟩) | (apply csKN; (first | exact M0 | exact M1 | exact M2 | exact M3 | exact M4 | exact M5 | exact M6 | exact M7 | exact M8 | exact M9); exact ⟨rfl, rfl, rfl, rfl, rfl, rfl, rfl, trivial⟩))
         | (with_reducible apply R.addI); (first | exact .t rfl | exact .c | exact .s rfl); (first | exact .t rfl | exact .c | exact .s rfl); (intro hg; omega)
         | (with_reducible apply R.subI); (first | exact .t rfl | exact .c | exact .s rfl); (first | exact .t rfl | exact .c | exact .s rfl); (intro hg; omega)
         | (with_reducible apply R.mulI); (first | exact .t rfl | exact .c | exact .s rfl); (first | exact .t rfl | exact .c | exact .s rfl); (intro hg; omega)
         | (with_reducible apply R.ix); (first | exact .t rfl | exact .c | exact .s rfl); (first | (apply wK; first | exact M0 | exact M1 | exact M2 | exact M3 | exact M4 | exact M5 | exact M6 | exact M7 | exact M8 | exact M9) | (apply rK; first | exact M0 | exact M1 | exact M2 | exact M3 | exact M4 | exact M5 | exact M6 | exact M7 | exact M8 | exact M9) | (apply wKN; first | exact M0 | exact M1 | exact M2 | exact M3 | exact M4 | exact M5 | exact M6 | exact M7 | exact M8 | exact M9) | (apply rKN; first | exact M0 | exact M1 | exact M2 | exact M3 | exact M4 | exact M5 | exact M6 | exact M7 | exact M8 | exact M9)); (first | exact .t rfl | exact .c | exact .s rfl); (intro hg; omega)
         | (with_reducible apply R.lr); (first | exact .t rfl | exact .c | exact .s rfl); (first | (apply wK; first | exact M0 | exact M1 | exact M2 | exact M3 | exact M4 | exact M5 | exact M6 | exact M7 | exact M8 | exact M9) | (apply rK; first | exact M0 | exact M1 | exact M2 | exact M3 | exact M4 | exact M5 | exact M6 | exact M7 | exact M8 | exact M9) | (apply wKN; first | exact M0 | exact M1 | exact M2 | exact M3 | exact M4 | exact M5 | exact M6 | exact M7 | exact M8 | exact M9) | (apply rKN; first | exact M0 | exact M1 | exact M2 | exact M3 | exact M4 | exact M5 | exact M6 | exact M7 | exact M8 | exact M9)); (intro hg; first | exact Ek.get0 rfl (by omega) | exact Ek.getN rfl (by omega) | exact Ek.getM rfl)
         | (with_reducible apply R.fr); (first | exact .t rfl | exact .c | exact .s rfl); (first | (apply wK; first | exact M0 | exact M1 | exact M2 | exact M3 | exact M4 | exact M5 | exact M6 | exact M7 | exact M8 | exact M9) | (apply rK; first | exact M0 | exact M1 | exact M2 | exact M3 | exact M4 | exact M5 | exact M6 | exact M7 | exact M8 | exact M9) | (apply wKN; first | exact M0 | exact M1 | exact M2 | exact M3 | exact M4 | exact M5 | exact M6 | exact M7 | exact M8 | exact M9) | (apply rKN; first | exact M0 | exact M1 | exact M2 | exact M3 | exact M4 | exact M5 | exact M6 | exact M7 | exact M8 | exact M9)); (intro hg; omega)
         | (with_reducible apply R.nilCheckE); (first | exact .t rfl | exact .c | exact .s rfl); assumption
         | (with_reducible apply R.fieldE); exact FO.h; (first | exact .t rfl | exact .c | exact .s rfl); assumption
         | (with_reducible apply R.pickAnd); (exact .t rfl); exact rfl; (intro hg h; rw [h]; rfl)
         | (with_reducible apply R.pickOr); (exact .t rfl); exact rfl; (intro hg h; rw [h]; rfl)
         | (with_reducible apply R.indexN); exact US.h; exact SZ.h; (first | exact .t rfl | exact .c | exact .s rfl); assumption; (first | exact .t rfl | exact .c | exact .s rfl); (intro hg; exact midB)
         | (with_reducible apply R.eqF); (first | exact .t rfl | exact .c | exact .s rfl); (first | exact .t rfl | exact .c | exact .s rfl); omega
         | (with_reducible apply R.eqT); (first | exact .t rfl | exact .c | exact .s rfl); (first | exact .t rfl | exact .c | exact .s rfl); first | omega | rfl)
  exact k.h) : G := h ⟨k⟩
theorem U {G' G : Prop} (k : G') (h : Hold G' → G := by
  intro k
  repeat first
    | with_reducible refine At.nil ?_
    | with_reducible refine At.nilU ?_
    | with_reducible refine At.tN ?_
    | with_reducible refine At.seq ?_
    | with_reducible refine At.plA ?_
    | with_reducible refine At.block ?_
    | with_reducible refine At.bN ?_
    | with_reducible refine At.skip ?_
    | with_reducible refine At.ret ?_
    | with_reducible refine At.tR ?_
    | with_reducible refine At.bR ?_
    | with_reducible refine At.exit ?_
    | with_reducible refine At.tE ?_
    | with_reducible refine At.bE ?_
    | (with_reducible refine At.bX ?_ ?_); rfl
    | (with_reducible refine At.cond1 ?_); first | refine At.condT (.t rfl) ?_ | refine At.condF (.t rfl) ?_
    | (first
         | with_reducible refine At.eU ?_
         | with_reducible refine At.e1 ?_
       refine' ES.go rfl (by first | exact .all | exact kI | exact Cl.none | exact kz) _ _
       rotate_left
       first
         | (with_reducible apply R.move); (first | exact .t rfl | exact .c | exact .s rfl)
         | (with_reducible apply R.nilCheckP); (first | exact .t rfl | exact .c | exact .s rfl)
         | (with_reducible apply R.fa); (first | exact .t rfl | exact .c | exact .s rfl)
         | (with_reducible apply R.lu); (first | exact .t rfl | exact .c | exact .s rfl); (first | (apply cS; (first | exact M0 | exact M1 | exact M2 | exact M3 | exact M4 | exact M5 | exact M6 | exact M7 | exact M8 | exact M9); exact rfl) | (apply cN; (first | exact M0 | exact M1 | exact M2 | exact M3 | exact M4 | exact M5 | exact M6 | exact M7 | exact M8 | exact M9); exact rfl))
         | (with_reducible apply R.assign); (first | exact .t rfl | exact .c | exact .s rfl)
         | (with_reducible apply R.pickT); (exact .t rfl); (first | exact .t rfl | exact .c | exact .s rfl)
         | (with_reducible apply R.pickF); (exact .t rfl); (first | exact .t rfl | exact .c | exact .s rfl)
         | (with_reducible apply R.extract); (first | exact .t rfl | exact .c | exact .s rfl); exact rfl)
    | (with_reducible refine At.s1 ?_
       refine' SS.go rfl (by first | exact kI | exact Cl.none | exact kz) _ _
       rotate_left
       first
         | (with_reducible apply R.move); (first | exact .t rfl | exact .c | exact .s rfl)
         | (with_reducible apply R.nilCheckP); (first | exact .t rfl | exact .c | exact .s rfl)
         | (with_reducible apply R.fa); (first | exact .t rfl | exact .c | exact .s rfl)
         | (with_reducible apply R.lu); (first | exact .t rfl | exact .c | exact .s rfl); (first | (apply cK; (first | exact M0 | exact M1 | exact M2 | exact M3 | exact M4 | exact M5 | exact M6 | exact M7 | exact M8 | exact M9); exact rfl) | (apply cKN; (first | exact M0 | exact M1 | exact M2 | exact M3 | exact M4 | exact M5 | exact M6 | exact M7 | exact M8 | exact M9); exact rfl))
         | (with_reducible apply R.assign); (first | exact .t rfl | exact .c | exact .s rfl)
         | (with_reducible apply R.pickT); (exact .t rfl); (first | exact .t rfl | exact .c | exact .s rfl)
         | (with_reducible apply R.pickF); (exact .t rfl); (first | exact .t rfl | exact .c | exact .s rfl)
         | (with_reducible apply R.extract); (first | exact .t rfl | exact .c | exact .s rfl); exact rfl)
  exact k.h) : G := h ⟨k⟩
theorem At.same [Df] {w0 : World} {n : Nat} {S N H : Hp} {l : Fr} {X : Act → World → Prop} (h : At w0 n S l N H X) : At w0 n S l N H X := h
theorem WD {G' G : Prop} (k : G') (h : Hold G' → G := by
  intro k
  refine At.same ?_
  dsimp only
  refine W ?_
  exact k.h) : G := h ⟨k⟩
end Go.Proofs.YtbolanigdkgbdaaGreat
