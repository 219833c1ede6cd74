/-
  Vectors of integers: cells, sums, hashes, in plain Lean; and append from a slice that is read.
-/
import Derived.Test.YtkecpbdgcbgogaaOpen
import Derived.Laws.Bits64
namespace Go.Proofs.Ytkecpbdgcbgogaa
set_option linter.unusedVariables false
set_option linter.unusedSimpArgs false
open Go.RowKit

/-- The cells of a vector. -/
def iv (l : List Int) : List Value := l.map (Value.int .i64)
theorem iv_length (l : List Int) : (iv l).length = l.length := by simp [iv]
theorem iv_append (l k : List Int) : iv (l ++ k) = iv l ++ iv k := by simp [iv]
theorem iv_get (l : List Int) (k : Nat) (hk : k < l.length) : (iv l)[k]? = some (.int .i64 l[k]) := by simp [iv, hk]
theorem iv_one (l : List Int) : ∀ u ∈ iv l, u.oneCell' = true := by
  intro u hu
  unfold iv at hu
  simp only [List.mem_map] at hu
  obtain ⟨x, _, rfl⟩ := hu
  rfl
theorem iv_set (l : List Int) (k : Nat) (x : Int) : (iv l).set k (.int .i64 x) = iv (l.set k x) := by simp [iv, List.map_set]
/-- The cell of an element. -/
theorem iv_at {w : World} {A : Option Addr} {n k : Nat} {l : List Int} (hl : l.length = n) (h : Rd w 1 A n (iv l)) (hk : k < n) : ∃ b o x, A = some ⟨b, o, none⟩ ∧ b < w.heap.size ∧ l[k]? = some x ∧ w.cell? ⟨b, o + k, none⟩ = some (.int .i64 x) := by
  obtain ⟨b, o, e, hb, hc⟩ := h.2 (by omega)
  have hk' : k < l.length := by omega
  exact ⟨b, o, l[k], e, hb, List.getElem?_eq_getElem hk', hc _ _ (iv_get l k hk')⟩

theorem run_append_nil {P : Program} (w : World) (base : Nat) (t ty e : TypeId) (i : TypeInfo) (size : Nat) (ht : P.underlying t = some (.slice e)) (hi : P.info? e = some i)
    (v : Value) (n : Nat) (xs : List Value) (hown : w.ownsRow base e size v n xs) (c : Nat) : (Builtin.append_ #[t, t] ty #[v, .slice none 0 c]).run P w = .ok v w := by
  rcases hown.2 with ⟨rfl, rfl⟩ | ⟨g, cap, cur, rfl, _, _, hnc, _⟩
  · simp [Builtin.append_, run_underlying ht, sizeOf, typeInfo, hi, Builtin.lenOf, Builtin.firstCells]
  · simp [Builtin.append_, run_underlying ht, sizeOf, typeInfo, hi, Builtin.lenOf, Builtin.firstCells, hnc, storeCells]

/-- 'out = append(out, src...)' where out is the call's own and src is read: nil, empty or not. -/
theorem wpList_appendAll {P : Program} {w : World} {ops : Array Oper} {rest : List Oper} {o : Oper} {a : Act} {Q : Exit → Act → World → Prop} {t e : TypeId} {z : Value} {size bytes : Nat}
    (sl : Sl P t e z size bytes) (hgd : o.guard = none) (s x : Operand) (ho : o.op = .call { callee := .builtin .append, args := #[s, x], argTypes := #[t, t] })
    (base : Nat) (v : Value) (n : Nat) (xs : List Value) (hs : a.eval s = v) (hown : w.ownsRow base e size v n xs)
    (A : Option Addr) (m c : Nat) (news : List Value) (hx : a.eval x = .slice A m c) (hr : Rd w size A m news) (h1 : ∀ u ∈ news, u.oneCell' = true)
    (h63 : n + m ≤ maxLen) (hbytes : (n + m) * bytes ≤ 140737488355328) (hbase : base ≤ w.heap.size)
    (h : ∀ A' cap' w', w'.ownsRow base e size (.slice A' (n + m) cap') (n + m) (xs ++ news) → Below base w w' → wpList P ops Q rest (a.put o.dst (.slice A' (n + m) cap')) w') :
    wpList P ops Q (o :: rest) a w := by
  obtain ⟨i, hi, hz0, hz1, hz2⟩ := info_parts sl.info
  rcases A with _ | ad
  · have hm : m = 0 := by
      rcases Nat.eq_zero_or_pos m with h0 | h0
      · exact h0
      · obtain ⟨b, o, h, _⟩ := hr.2 h0
        cases h
    subst hm
    have hn : news = [] := List.eq_nil_of_length_eq_zero (by simpa using hr.1)
    subst hn
    refine wpList_plain hgd fun K hK => ?_
    have hrun := run_append_nil (P := P) w base t o.type e i size sl.slice hi v n xs hown c
    unfold Oper.wp execOp
    simp only [ho, resolve, invoke, builtin, Sem.run_bind, Sem.run_pure, Result.andThen_ok, List.map_toArray, List.map_cons, List.map_nil, hs, hx, hrun]
    obtain ⟨A, cap, rfl, _⟩ := own_form hown
    exact hK _ _ (h A cap w (by simpa using hown) (Below.refl _ _))
  · refine wpList_append_own _ hgd s x t ho base e i z size bytes sl.slice hi hz0 hz1 hz2 sl.cells sl.pos v n xs hs hown ad m c news hx hr.1 ?_ h1 h63 hbytes hbase ?_
    · intro j u hu
      rcases Nat.eq_zero_or_pos m with h0 | h0
      · subst h0
        have hn : news = [] := List.eq_nil_of_length_eq_zero (by simpa using hr.1)
        subst hn
        simp at hu
      · obtain ⟨b, o', h, _, hc⟩ := hr.2 h0
        injection h with h
        subst h
        rw [show ((⟨b, o', none⟩ : Addr).add j) = ⟨b, o' + j, none⟩ by unfold Addr.add; by_cases hj : j = 0 <;> simp [hj]]
        exact hc j u hu
    · intro v' w' h2 h3 _
      obtain ⟨A, cap, rfl, _⟩ := own_form h2
      exact h A cap w' h2 ((Below.refl _ _).grown h3 hbase fun k hk => (hown.lt k hk).1)

/-- The hash. -/
def hs1 (h x : Int) : Int := IntKind.u64.wrap (IntKind.u64.wrap (h + IntKind.u64.wrap x) * 1099511628211)
def hashF : List Int → Int → Int
  | [], h => h
  | x :: l, h => hashF l (hs1 h x)
def hashL (l : List Int) : Int := hashF l 1
theorem hashF_step (l : List Int) (k : Nat) (x h : Int) (hx : l[k]? = some x) : hashF (l.drop k) h = hashF (l.drop (k + 1)) (hs1 h x) := by
  obtain ⟨hk, hx⟩ := List.getElem?_eq_some_iff.1 hx
  rw [List.drop_eq_getElem_cons hk, hx]
  rfl
theorem hashF_end (l : List Int) (k : Nat) (h : Int) (hk : l.length ≤ k) : hashF (l.drop k) h = h := by
  rw [List.drop_eq_nil_of_le hk]
  rfl

theorem wu' (x : Int) : IntKind.u64.wrap x = x % 18446744073709551616 := IntKind.wrap_u64 x
theorem emod_mul_l (h k m : Int) : (h % m * k) % m = (h * k) % m := by rw [Int.mul_emod (h % m) k, Int.emod_emod, ← Int.mul_emod]
theorem emod_mul_r (h k m : Int) : (h * (k % m)) % m = (h * k) % m := by rw [Int.mul_comm, emod_mul_l, Int.mul_comm]
theorem cong_mul {a b m : Int} (c : Int) (h : a % m = b % m) : (a * c) % m = (b * c) % m := by rw [← emod_mul_l, h, emod_mul_l]
theorem cong_add {a b m : Int} (c : Int) (h : a % m = b % m) : (a + c) % m = (b + c) % m := by rw [← Int.emod_add_emod, h, Int.emod_add_emod]
theorem hash_alg (h x p s c M : Int) : (((h + x % M) % M * c) % M * p + s) % M = (h * (p * c % M) + (s + x % M * (p * c % M) % M) % M) % M := by
  have h1 : ((h + x % M) % M) % M = (h + x) % M := by rw [Int.emod_emod, Int.add_emod_emod]
  have h2 : ((h + x % M) % M * c % M) % M = ((h + x) * c) % M := by rw [Int.emod_emod]; exact cong_mul c h1
  have h3 := cong_add s (cong_mul p h2)
  have h4 : (h * (p * c % M)) % M = (h * (p * c)) % M := emod_mul_r _ _ _
  have h5 : ((s + x % M * (p * c % M) % M) % M) % M = (s + x * (p * c)) % M := by rw [Int.emod_emod, Int.add_emod_emod, Int.add_comm, cong_add s ((emod_mul_r _ _ _).trans (emod_mul_l x (p * c) M)), Int.add_comm]
  rw [h3, Int.add_emod (h * (p * c % M)), h4, h5, ← Int.add_emod]
  congr 1
  grind
/-- What the reference's hash has when the elements from k on are done. -/
def HashAt (l : List Int) (k : Nat) (p s : Int) : Prop := (0 ≤ p ∧ p < 18446744073709551616) ∧ (0 ≤ s ∧ s < 18446744073709551616) ∧ ∀ h, 0 ≤ h → h < 18446744073709551616 → hashF (l.drop k) h = (h * p + s) % 18446744073709551616
theorem HashAt.start (l : List Int) (k : Nat) (hk : l.length ≤ k) : HashAt l k 1 0 := by
  refine ⟨by omega, by omega, fun h h0 h1 => ?_⟩
  rw [hashF_end l k h hk]
  omega
theorem HashAt.next {l : List Int} {k : Nat} {p s x : Int} (h : HashAt l (k + 1) p s) (hx : l[k]? = some x) :
    HashAt l k (IntKind.u64.wrap (p * 1099511628211)) (IntKind.u64.wrap (s + IntKind.u64.wrap (IntKind.u64.wrap x * IntKind.u64.wrap (p * 1099511628211)))) := by
  obtain ⟨_, _, h3⟩ := h
  refine ⟨by rw [wu']; omega, by rw [wu']; omega, fun h0 _ _ => ?_⟩
  rw [hashF_step l k x h0 hx, h3 _ (by unfold hs1; rw [wu']; omega) (by unfold hs1; rw [wu']; omega)]
  unfold hs1
  simp only [wu']
  exact hash_alg h0 x p s 1099511628211 18446744073709551616
theorem HashAt.done {l : List Int} {p s : Int} (h : HashAt l 0 p s) : IntKind.u64.wrap (s + p) = hashL l := by
  have := h.2.2 1 (by omega) (by omega)
  unfold hashL
  rw [List.drop_zero] at this
  rw [this, wu', Int.one_mul, Int.add_comm]

/-- A vector to whose elements from o on the first k of another one are added. -/
def addAt (xs : List Int) (o : Nat) (ys : List Int) (k : Nat) : List Int := xs.mapIdx fun i x => if o ≤ i ∧ i < o + k then wrap64 (x + ys.getD (i - o) 0) else x
theorem addAt_length (xs : List Int) (o : Nat) (ys : List Int) (k : Nat) : (addAt xs o ys k).length = xs.length := by simp [addAt]
theorem addAt_get (xs : List Int) (o : Nat) (ys : List Int) (k i : Nat) : (addAt xs o ys k)[i]? = xs[i]?.map fun x => if o ≤ i ∧ i < o + k then wrap64 (x + ys.getD (i - o) 0) else x := by simp [addAt]
theorem addAt_zero (xs : List Int) (o : Nat) (ys : List Int) : addAt xs o ys 0 = xs := by
  apply List.ext_getElem?
  intro i
  rw [addAt_get]
  cases xs[i]? with
  | none => rfl
  | some x => simp; omega
theorem addAt_next (xs : List Int) (o : Nat) (ys : List Int) (k : Nat) (x y : Int) (hx : xs[o + k]? = some x) (hy : ys[k]? = some y) : (addAt xs o ys k).set (o + k) (wrap64 (x + y)) = addAt xs o ys (k + 1) := by
  apply List.ext_getElem?
  intro i
  rw [List.getElem?_set, addAt_get, addAt_get]
  by_cases e : o + k = i
  · subst e
    have hlt : o + k < xs.length := (List.getElem?_eq_some_iff.1 hx).1
    rw [if_pos rfl, if_pos (by rw [addAt_length]; exact hlt), hx]
    simp [hy]
  · rw [if_neg e]
    cases xs[i]? with
    | none => rfl
    | some x =>
      simp only [Option.map_some]
      congr 1
      by_cases h1 : o ≤ i ∧ i < o + k
      · rw [if_pos h1, if_pos (by omega)]
      · rw [if_neg h1, if_neg (by omega)]
theorem addAt_at (xs : List Int) (o : Nat) (ys : List Int) (k : Nat) (x : Int) (hx : xs[o + k]? = some x) : (addAt xs o ys k)[o + k]? = some x := by
  rw [addAt_get, hx]
  simp
/-- The sum of two vectors of one length. -/
def addL (xs ys : List Int) : List Int := addAt xs 0 ys xs.length

/-- The sum of vectors, if they have one length. -/
def sumFrom (acc : List Int) : List (List Int) → Option (List Int)
  | [] => some acc
  | z :: zs => if z.length = acc.length then sumFrom (addL acc z) zs else none
def sumL : List (List Int) → Option (List Int)
  | [] => some []
  | z :: zs => sumFrom z zs
theorem addL_length (x y : List Int) : (addL x y).length = x.length := addAt_length _ _ _ _
theorem sumFrom_step (acc : List Int) (zs : List (List Int)) (k : Nat) (z : List Int) (h : zs[k]? = some z) (hl : z.length = acc.length) : sumFrom acc (zs.drop k) = sumFrom (addL acc z) (zs.drop (k + 1)) := by
  obtain ⟨hk, hz⟩ := List.getElem?_eq_some_iff.1 h
  rw [List.drop_eq_getElem_cons hk, hz]
  simp only [sumFrom]
  rw [if_pos hl]
theorem sumFrom_stop (acc : List Int) (zs : List (List Int)) (k : Nat) (z : List Int) (h : zs[k]? = some z) (hl : z.length ≠ acc.length) : sumFrom acc (zs.drop k) = none := by
  obtain ⟨hk, hz⟩ := List.getElem?_eq_some_iff.1 h
  rw [List.drop_eq_getElem_cons hk, hz]
  simp only [sumFrom]
  rw [if_neg hl]
theorem sumFrom_end (acc : List Int) (zs : List (List Int)) (k : Nat) (h : zs.length ≤ k) : sumFrom acc (zs.drop k) = some acc := by
  rw [List.drop_eq_nil_of_le h]
  rfl
theorem sumL_first (zs : List (List Int)) (z : List Int) (h : zs[0]? = some z) : sumL zs = sumFrom z (zs.drop 1) := by
  cases zs with
  | nil => simp at h
  | cons a l =>
    simp at h
    subst h
    rfl

/-- A slice value with its length. -/
def slv (s : Option Addr × Nat × Nat) : Value := .slice s.1 s.2.1 s.2.2
/-- Slices that are read as vectors. -/
def RdV (w : World) (ss : List (Option Addr × Nat × Nat)) (zs : List (List Int)) : Prop :=
  ss.length = zs.length ∧ ∀ (i : Nat) (s : Option Addr × Nat × Nat) (z : List Int), ss[i]? = some s → zs[i]? = some z → z.length = s.2.1 ∧ Rd w 1 s.1 s.2.1 (iv z)
theorem RdV.below {w w' : World} {ss : List (Option Addr × Nat × Nat)} {zs : List (List Int)} (h : RdV w ss zs) (hb : Below w.heap.size w w') : RdV w' ss zs :=
  ⟨h.1, fun i s z h1 h2 => ⟨(h.2 i s z h1 h2).1, (h.2 i s z h1 h2).2.below hb⟩⟩
theorem RdV.kept {w w' : World} {ss : List (Option Addr × Nat × Nat)} {zs : List (List Int)} (h : RdV w ss zs) (hb : Kept w w') : RdV w' ss zs := h.below hb.2.2
/-- An element of a slice of slices. -/
theorem sv_at {w : World} {A : Option Addr} {n k : Nat} {ss : List (Option Addr × Nat × Nat)} {zs : List (List Int)} (hl : ss.length = n) (h : Rd w 1 A n (ss.map slv)) (hv : RdV w ss zs) (hk : k < n) :
    ∃ b o As ns cs z, A = some ⟨b, o, none⟩ ∧ b < w.heap.size ∧ ss[k]? = some (As, ns, cs) ∧ zs[k]? = some z ∧ w.cell? ⟨b, o + k, none⟩ = some (.slice As ns cs) ∧ z.length = ns ∧ Rd w 1 As ns (iv z) := by
  obtain ⟨b, o, e, hb, hc⟩ := h.2 (by omega)
  have hks : k < ss.length := by omega
  have hkz : k < zs.length := by rw [← hv.1]; omega
  have h1 := hc k (slv ss[k]) (by simp [hks])
  have h2 := hv.2 k _ _ (List.getElem?_eq_getElem hks) (List.getElem?_eq_getElem hkz)
  exact ⟨b, o, ss[k].1, ss[k].2.1, ss[k].2.2, zs[k], e, hb, List.getElem?_eq_getElem hks, List.getElem?_eq_getElem hkz, h1, h2.1, h2.2⟩

end Go.Proofs.Ytkecpbdgcbgogaa
