/-
  Cycles and the reference's Cycles; lists of rows of numbers.
-/
import Derived.Test.YtncjfijpaheobaaCycPlain
import Derived.Test.YtncjfijpaheobaaPermComp
namespace Go.Proofs.Ytncjfijpaheobaa
set_option linter.unusedVariables false
set_option linter.unusedSimpArgs false
set_option maxRecDepth 100000
open Go.RowKit

/-- How long a slice is. -/
def lenV : Value → Nat
  | .slice _ n _ => n
  | _ => 0
abbrev SlN := Option Addr × Nat × Nat
/-- The slices as values. -/
def slsv (vs : List SlN) : List Value := vs.map fun s => .slice s.1 s.2.1 s.2.2
theorem slsv_length (vs : List SlN) : (slsv vs).length = vs.length := by simp [slsv]
theorem slsv_snoc (vs : List SlN) (s : SlN) : slsv (vs ++ [s]) = slsv vs ++ [.slice s.1 s.2.1 s.2.2] := by simp [slsv]
theorem slsv_get {vs : List SlN} {i : Nat} {s : SlN} (h : vs[i]? = some s) : (slsv vs)[i]? = some (.slice s.1 s.2.1 s.2.2) := by simp [slsv, h]
theorem own_ne_own {w : World} {base base' : Nat} {e e' : TypeId} {size size' n n' : Nat} {v v' : Value} {xs xs' : List Value} (h : w.ownsRow base e size v n xs) (h' : w.ownsRow base' e' size' v' n' xs') (hne : e ≠ e') : v.ownBlock = none ∨ v.ownBlock ≠ v'.ownBlock := by
  rcases h'.2 with ⟨rfl, _⟩ | ⟨g', cap, cur, rfl, _, hh, _⟩
  · rcases h.2 with ⟨rfl, _⟩ | ⟨g, cap, cur, rfl, _⟩
    · exact .inl (by simp [Value.ownBlock])
    · exact .inr (by simp [Value.ownBlock])
  · exact .inr (by have := own_blk_ne h (g := g') (t := e') (cs := cur) hh hne; simpa [Value.ownBlock] using this)
/-- Rows of numbers, each in memory of the call's own. -/
structure OwnN (w : World) (base : Nat) (vs : List SlN) (ls : List (List Int)) : Prop where
  len : vs.length = ls.length
  row : ∀ (i : Nat) (s : SlN) (l : List Int), vs[i]? = some s → ls[i]? = some l → s.2.1 = l.length ∧ w.ownsRow base 3 1 (.slice s.1 s.2.1 s.2.2) s.2.1 (iv l)
theorem OwnN.nil (w : World) (base : Nat) : OwnN w base [] [] := ⟨rfl, fun i s l h => by simp at h⟩
theorem OwnN.below {w w' : World} {base : Nat} {vs : List SlN} {ls : List (List Int)} (h : OwnN w base vs ls) (hb : Below w.heap.size w w') : OwnN w' base vs ls :=
  ⟨h.len, fun i s l h1 h2 => ⟨(h.row i s l h1 h2).1, own_below (h.row i s l h1 h2).2 hb⟩⟩
theorem OwnN.base {w : World} {base base' : Nat} {vs : List SlN} {ls : List (List Int)} (h : OwnN w base vs ls) (hb : base' ≤ base) : OwnN w base' vs ls :=
  ⟨h.len, fun i s l h1 h2 => ⟨(h.row i s l h1 h2).1, own_base (h.row i s l h1 h2).2 hb⟩⟩
theorem OwnN.but {w w' : World} {S : Nat → Prop} {base : Nat} {vs : List SlN} {ls : List (List Int)} (h : OwnN w base vs ls) (hb : But S w w')
    (hv : ∀ (v : Value) (n : Nat) (xs : List Value) (g : Nat), w.ownsRow base 3 1 v n xs → v.ownBlock = some g → ¬ S g) : OwnN w' base vs ls :=
  ⟨h.len, fun i s l h1 h2 => ⟨(h.row i s l h1 h2).1, own_but (h.row i s l h1 h2).2 hb (fun g e => hv _ _ _ g (h.row i s l h1 h2).2 e)⟩⟩
theorem OwnN.rowkept {w w' : World} {base base' : Nat} {t : TypeId} {size n : Nat} {v : Value} {xs : List Value} {vs : List SlN} {ls : List (List Int)} (h : OwnN w base vs ls) (hv : w.ownsRow base' t size v n xs) (ht : 3 ≠ t) (hg : w.grownBy w' v.ownBlock) : OwnN w' base vs ls :=
  ⟨h.len, fun i s l h1 h2 => ⟨(h.row i s l h1 h2).1, (h.row i s l h1 h2).2.kept hg (own_ne_own (h.row i s l h1 h2).2 hv ht)⟩⟩
theorem OwnN.snoc {w : World} {base : Nat} {vs : List SlN} {ls : List (List Int)} {s : SlN} {l : List Int} (h : OwnN w base vs ls) (hl : s.2.1 = l.length) (h1 : w.ownsRow base 3 1 (.slice s.1 s.2.1 s.2.2) s.2.1 (iv l)) : OwnN w base (vs ++ [s]) (ls ++ [l]) := by
  refine ⟨by simp [h.len], fun i s' l' hs hl' => ?_⟩
  rw [List.getElem?_append] at hs hl'
  rw [h.len] at hs
  split at hs
  · rename_i hi
    rw [if_pos hi] at hl'
    exact h.row i s' l' hs hl'
  · rename_i hi
    rw [if_neg hi] at hl'
    have : i - ls.length = 0 := by
      have := (List.getElem?_eq_some_iff.1 hs).1
      simp at this
      omega
    rw [this] at hs hl'
    simp at hs hl'
    subst hs hl'
    exact ⟨hl, h1⟩

theorem SetOf.grown {w w' : World} {b n : Nat} {s : Int → Bool} {row : Option Nat} (h : SetOf w b n s) (hg : w.grownBy w' row) (hne : row ≠ some b) : SetOf w' b n s := by
  obtain ⟨D, h1, h2⟩ := h
  exact ⟨D, h1.kept hg (fun e => hne e.symm), h2⟩
theorem SetOf.own_ne {w : World} {b n : Nat} {s : Int → Bool} (h : SetOf w b n s) {base : Nat} {e : TypeId} {size m : Nat} {v : Value} {xs : List Value} (ho : w.ownsRow base e size v m xs) : v.ownBlock ≠ some b := by
  obtain ⟨D, ⟨es, clock, hb, _⟩, _⟩ := h
  rcases ho.2 with ⟨rfl, _⟩ | ⟨g', cap, cur, rfl, _, hh, _⟩
  · simp [Value.ownBlock]
  · intro he
    have : g' = b := by simpa [Value.ownBlock] using he
    subst this
    rw [hh] at hb
    cases hb

theorem slRows : Sl Try.prog 39 23 (.slice none 0 0) 1 24 := ⟨Try.underlying39, by kernel_rfl, rfl, by omega⟩
theorem uone_sl (A : Option Addr) (n c : Nat) : ∀ u ∈ (#[Value.slice A n c] : Array Value).toList, u.oneCell' = true := by
  intro u hu
  simp at hu
  subst hu
  rfl

/-- The cycles come back in memory of the call's own. -/
def CycRet (w : World) (ls : List (List Int)) (e : Ending) (w' : World) : Prop :=
  ∃ A c m vs, e = .returned (.tuple #[.slice A m c, .bool true]) ∧ m = ls.length ∧ w'.ownsRow w.heap.size 23 1 (.slice A m c) m (slsv vs) ∧ OwnN w' w.heap.size vs ls ∧ Below w.heap.size w w'

/-- How long the walk from k is: none where k has come. -/
def jumpP (p : List Int) (k : Nat) : Nat := if leastP p (k : Int) = true then ordP p (k : Int) else 0

section
variable {p : List Int} (hg : goodTo p p.length)
include hg
theorem jump_le {k : Nat} (hk : k < p.length) : jumpP p k ≤ p.length := by
  rw [jumpP]
  split
  · exact (ordP_spec hg (by omega) (by omega)).2.1
  · omega
theorem jump_test {k j : Nat} (hk : k < p.length) (hj : j ≤ jumpP p k) : (decide (itP p k j ∈ (cycs p k).flatten) || decide (itP p k j ∈ cycTo p k j)) = decide (j = jumpP p k) := by
  have hl := cycs_least hg hk
  rw [jumpP] at hj ⊢
  by_cases e : leastP p (k : Int) = true
  · rw [if_pos e] at hj ⊢
    have h1 := cycs_far hg hk (hl.1 e) j
    have h2 := cyc_next hg (i := (k : Int)) (by omega) (by omega) hj
    rw [decide_eq_false h1, Bool.false_or]
    by_cases h3 : j = ordP p (k : Int)
    · rw [decide_eq_true h3, decide_eq_true (h2.2 h3)]
    · rw [decide_eq_false h3, decide_eq_false (fun h => h3 (h2.1 h))]
  · rw [if_neg e] at hj ⊢
    obtain rfl : j = 0 := by omega
    have h1 : (k : Int) ∈ (cycs p k).flatten := Classical.byContradiction (fun h => e (hl.2 h))
    rw [show itP p (k : Int) 0 = (k : Int) from rfl, decide_eq_true h1]
    simp
theorem cycs_jump {k : Nat} (hk : k < p.length) : (jumpP p k = 0 ∧ cycs p (k + 1) = cycs p k) ∨ (0 < jumpP p k ∧ cycs p (k + 1) = cycs p k ++ [cycTo p k (jumpP p k)]) := by
  rw [jumpP, cycs]
  by_cases e : leastP p (k : Int) = true
  · rw [if_pos e, if_pos e]
    exact .inr ⟨(ordP_spec hg (by omega) (by omega)).1, rfl⟩
  · rw [if_neg e, if_neg e]
    exact .inl ⟨rfl, by simp⟩
theorem seen_jump {k : Nat} (hk : k < p.length) : (fun y => decide (y ∈ (cycs p k).flatten) || decide (y ∈ cycTo p k (jumpP p k))) = fun y => decide (y ∈ (cycs p (k + 1)).flatten) := by
  funext y
  rcases cycs_jump hg hk with ⟨h1, h2⟩ | ⟨h1, h2⟩
  · rw [h1, h2]; simp [cycTo]
  · rw [h2, List.flatten_append]
    simp
theorem flat_le {k : Nat} (hk : k ≤ p.length) : (cycs p k).flatten.length ≤ k * p.length := by
  induction k with
  | zero => simp [cycs]
  | succ k ih =>
    have ih := ih (by omega)
    have hj := jump_le hg (k := k) (by omega)
    rw [Nat.succ_mul]
    rcases cycs_jump hg (k := k) (by omega) with ⟨h1, h2⟩ | ⟨h1, h2⟩
    · rw [h2]; omega
    · rw [h2, List.flatten_append, List.length_append]
      simp only [List.flatten_cons, List.flatten_nil, List.append_nil, cycTo_length]
      omega
end
theorem seen_next (p : List Int) (k j : Nat) (x : Int) (h : itP p k j = x) : (fun y => (decide (y ∈ (cycs p k).flatten) || decide (y ∈ cycTo p k j)) || y == x) = fun y => decide (y ∈ (cycs p k).flatten) || decide (y ∈ cycTo p k (j + 1)) := by
  funext y
  rw [cycTo_succ, h, Bool.or_assoc]
  congr 1
  rw [Bool.eq_iff_iff]
  simp

section
variable (A : Option Addr) (n c : Nat) (p : List Int) (w : World)

set_option maxHeartbeats 1000000 in
theorem cycles_none (hl : p.length = n) (h : Rd w 1 A n (iv p)) (hn : n ≤ 1000000) (hw : ∀ x ∈ p, (Lit.int .i64 x).wf = true) (hg : ¬ goodTo p n) :
    Calls Try.prog 30 #[.slice A n c] w fun e w' => e = .returned (.tuple #[.slice none 0 0, .bool false]) ∧ Below w.heap.size w w' := by
  have HA := Lib.hid (valid_good A n c p w hl h hn hw false (by simpa using hg))
  clear hl h hw hg
  go_enter Try.func30, Try.ntmps30
  go_wp2_with fail
  ((with_reducible refine HA.out.mono ?_); rintro e w3 ⟨rfl, hb3⟩)
  go_wp2_with fail
  go_ret2
  exact ⟨rfl, hb3⟩

set_option maxHeartbeats 1000000 in
theorem refCycles_none (hl : p.length = n) (h : Rd w 1 A n (iv p)) (hn : n ≤ 1000000) (hg : ¬ goodTo p n) :
    Calls Try.prog 31 #[.slice A n c] w fun e w' => e = .returned (.tuple #[.slice none 0 0, .bool false]) ∧ Below w.heap.size w w' := by
  have HA := Lib.hid (refValid_good A n c p w hl h hn false (by simpa using hg))
  clear hl h hg
  go_enter Try.func31, Try.ntmps31
  go_wp2_with fail
  ((with_reducible refine HA.out.mono ?_); rintro e w1 ⟨rfl, rfl⟩)
  go_wp2_with fail
  go_ret2
  exact ⟨rfl, Below.refl _ _⟩

theorem But.then_below {S : Nat → Prop} {a b c : World} (h : But S a b) (hb : Below a.heap.size b c) : But S a c :=
  ⟨hb.os.trans h.os, hb.tape.trans h.tape, hb.output.trans h.output, Nat.le_trans h.size hb.size, fun i hi hn => (hb.block i hi).trans (h.block i hi hn)⟩

set_option maxHeartbeats 4000000 in
theorem cycles_some (hl : p.length = n) (h : Rd w 1 A n (iv p)) (hn : n ≤ 1000) (hw : ∀ x ∈ p, (Lit.int .i64 x).wf = true) (hg : goodTo p n) :
    Calls Try.prog 30 #[.slice A n c] w (CycRet w (cycs p n)) := by
  have HA := Lib.hid (valid_good A n c p w hl h (by omega) hw true (by simpa using hg))
  have HR := Lib.hid h
  have HL := Lib.hid hl
  have HG : Hid (goodTo p p.length) := Lib.hid (by rw [hl]; exact hg)
  have hmm := @run_makeMap Try.prog
  clear hl h hw hg
  go_enter Try.func30, Try.ntmps30
  go_wp2_with fail
  ((with_reducible refine HA.out.mono ?_); rintro e w1 ⟨rfl, hb1⟩)
  obtain ⟨b, hb⟩ : ∃ b, w1.heap.size = b := ⟨_, rfl⟩
  obtain ⟨W0, hW0⟩ : ∃ W0, w1.alloc (.map #[] 0) = W0 := ⟨_, rfl⟩
  have s0 : SetOf W0 b 0 (fun y => decide (y ∈ (cycs p 0).flatten)) := by
    rw [← hW0, ← hb]
    have h := SetOf.made w1
    have e : (fun y : Int => decide (y ∈ (cycs p 0).flatten)) = (fun _ => false) := by funext y; simp [cycs]
    rw [e]
    exact h
  have k0 : Below w.heap.size w W0 := by rw [← hW0]; exact hb1.alloc hb1.size _
  have hbw : w.heap.size ≤ b := by rw [← hb]; exact hb1.size
  have HS0 := Lib.hid s0
  have HK0 := Lib.hid k0
  have HW0 := Lib.hid hW0
  have HBB := Lib.hid hb
  clear s0 k0 hW0 hb hb1 HA
  go_wp2_with fail
  rw [HW0.out, HBB.out]
  go_loopw [5, 15] (fun v i wr => ∃ (k m K : Nat) (vs : List SlN), k ≤ n ∧ i = .int .i64 k ∧ (∃ A' c', v = .slice A' m c') ∧ Hid (m = (cycs p k).length) ∧ wr.ownsRow w.heap.size 23 1 v m (slsv vs) ∧ OwnN wr w.heap.size vs (cycs p k) ∧ K ≤ k * 1000 ∧ SetOf wr b K (fun y => decide (y ∈ (cycs p k).flatten)) ∧ Below w.heap.size w wr) (fun _ i _ => n - (intOf i).toNat)
  case atStart => exact ⟨0, 0, 0, [], by omega, rfl, ⟨none, 0, rfl⟩, Lib.hid rfl, by simpa [slsv] using World.ownsRow_nil _ _ _ _, OwnN.nil _ _, by omega, HS0.out, HK0.out⟩
  case round =>
    obtain ⟨k, m, K, vs, hk, rfl, ⟨A', c', rfl⟩, hm, ho, hon, hK, hs, hb⟩ := hrel
    by_cases hlt : k < n
    · obtain ⟨J, hJ⟩ : ∃ J, jumpP p k = J := ⟨_, rfl⟩
      have hkp : k < p.length := by rw [HL.out]; exact hlt
      have hJn : J ≤ n := by have := jump_le HG.out hkp; rw [HL.out, hJ] at this; exact this
      have HT := Lib.hid (fun j (hj : j ≤ J) => (by have h := jump_test HG.out hkp (j := j) (by rw [hJ]; exact hj); rw [hJ] at h; exact h : (decide (itP p k j ∈ (cycs p k).flatten) || decide (itP p k j ∈ cycTo p k j)) = decide (j = J)))
      have HCJ : Hid ((J = 0 ∧ cycs p (k + 1) = cycs p k) ∨ (0 < J ∧ cycs p (k + 1) = cycs p k ++ [cycTo p k J])) := Lib.hid (by have h := cycs_jump HG.out hkp; rw [hJ] at h; exact h)
      have HSJ : Hid ((fun y => decide (y ∈ (cycs p k).flatten) || decide (y ∈ cycTo p k J)) = fun y => decide (y ∈ (cycs p (k + 1)).flatten)) := Lib.hid (by have h := seen_jump HG.out hkp; rw [hJ] at h; exact h)
      have hml : m ≤ k := by rw [hm.out]; exact cycs_length p k
      have HO := Lib.hid ho
      have HON := Lib.hid hon
      have HS := Lib.hid hs
      have HB := Lib.hid hb
      have hwr := hb.size
      have HSS : Hid (SetOf wr b (K + 0) (fun y => decide (y ∈ (cycs p k).flatten) || decide (y ∈ cycTo p k 0))) := Lib.hid (by
        have e : (fun y => decide (y ∈ (cycs p k).flatten) || decide (y ∈ cycTo p k 0)) = fun y => decide (y ∈ (cycs p k).flatten) := by funext y; simp [cycTo]
        rw [e]
        exact hs)
      clear ho hon hs hb hJ
      go_wp2_with fail
      go_loopw [7, 8] (fun v x w2 => ∃ (j xn : Nat), j ≤ J ∧ (∃ A2 c2, v = .slice A2 j c2) ∧ x = .int .i64 (xn : Int) ∧ Hid (itP p k j = (xn : Int)) ∧ xn < n ∧ w2.ownsRow wr.heap.size 3 1 v j (iv (cycTo p k j)) ∧ SetOf w2 b (K + j) (fun y => decide (y ∈ (cycs p k).flatten) || decide (y ∈ cycTo p k j)) ∧ But (fun q => q = b) wr w2) (fun v _ _ => n - lenV v)
      case atStart => exact ⟨0, k, by omega, ⟨none, 0, rfl⟩, rfl, Lib.hid rfl, hlt, by simpa [iv, cycTo] using World.ownsRow_nil _ _ _ _, HSS.out, But.refl _ _⟩
      case round =>
        obtain ⟨j, xn, hj, ⟨A2, c2, rfl⟩, rfl, hx, hxn, ho2, hs2, hbut⟩ := hrel
        have wfx : (Lit.int .i64 (xn : Int)).wf = true := fits_nat (by omega) (by omega)
        have hlk : (Instr.lookup 91 (.map (some b)) (.int .i64 (xn : Int)) false).run Try.prog wr = .ok (.bool (decide (j = J))) wr := by
          rw [← HT.out j hj, hx.out]
          exact hs2.look (xn : Int) wfx
        have hsz2 := hbut.size
        have HO2 := Lib.hid ho2
        have HBW := Lib.hid (HB.out.trans (hbut.below hwr (fun i h => by rw [h]; exact hbw)))
        have HBUT := Lib.hid hbut
        have HS2 := Lib.hid hs2
        clear ho2 hs2 hbut
        by_cases e : j = J
        · rw [decide_eq_true e] at hlk
          subst e
          have HOO := Lib.hid (own_but HO.out HBUT.out (fun g e h => HS.out.own_ne HO.out (by rw [e, h])))
          have HONN := Lib.hid (HON.out.but HBUT.out (fun v n xs g ho e h => HS.out.own_ne ho (by rw [e, h])))
          have HS3 : Hid (SetOf wr b (K + j) (fun y => decide (y ∈ (cycs p (k + 1)).flatten))) := Lib.hid (by rw [← HSJ.out]; exact HS2.out)
          have hszw := HBW.out.size
          by_cases hJ0 : 0 < j
          · have hC : cycs p (k + 1) = cycs p k ++ [cycTo p k j] := by rcases HCJ.out with h | h; omega; exact h.2
            have HC := Lib.hid hC
            have HSN := Lib.hid (slsv_snoc vs (A2, j, c2))
            have e1 : decide ((0 : Int) < (j : Int)) = true := decide_eq_true (by omega)
            clear hC
            go_wp2_with (at_builtin; go_must (refine wpList_pushG slRows rfl _ _ rfl w.heap.size _ m (slsv vs) rfl HOO.out #[.slice A2 j c2] _ rfl rfl rfl (uone_sl _ _ _) (by unfold maxLen; omega) (by omega) hszw ?_); intro A5 c5 w5 hown5 hb5 hg5)
            go_roundw
            case rel => exact ⟨k + 1, m + 1, K + j, vs ++ [(A2, j, c2)], by omega, by go_num, ⟨A5, c5, rfl⟩, Lib.hid (by rw [HC.out, List.length_append, hm.out]; rfl), by rw [HSN.out]; exact hown5, by
              rw [HC.out]
              exact (HONN.out.rowkept HOO.out (by decide) hg5).snoc (by simp [cycTo_length]) (own_base (HO2.out.kept hg5 (own_ne_own HO2.out HOO.out (by decide))) hwr), by omega, HS3.out.grown hg5 (HS3.out.own_ne HOO.out), HBW.out.trans hb5⟩
            case measure => simp [intOf]; omega
          · have hC : cycs p (k + 1) = cycs p k := by rcases HCJ.out with h | h; exact h.2; omega
            have HC := Lib.hid hC
            have e1 : decide ((0 : Int) < (j : Int)) = false := decide_eq_false (by omega)
            clear hC
            go_wp2_with fail
            go_roundw
            case rel => exact ⟨k + 1, m, K + j, vs, by omega, by go_num, ⟨A', c', rfl⟩, Lib.hid (by rw [HC.out]; exact hm.out), HOO.out, by rw [HC.out]; exact HONN.out, by omega, HS3.out, HBW.out⟩
            case measure => simp [intOf]; omega
        · rw [decide_eq_false e] at hlk
          obtain ⟨w3, hput, hs3, hg3⟩ := HS2.out.put (xn : Int) wfx (by unfold maxLen; omega)
          obtain ⟨g0, o0, y, rfl, hbl, hy, c1⟩ := iv_at HL.out HR.out hxn
          have HC1 := Lib.hid c1
          have HSN : Hid (SetOf w3 b (K + (j + 1)) (fun y => decide (y ∈ (cycs p k).flatten) || decide (y ∈ cycTo p k (j + 1)))) := Lib.hid (by
            rw [← seen_next p k j xn hx.out]
            exact hs3)
          have HO3 := Lib.hid (own_but HO2.out (But.of_gr (S := fun q => q = b) hg3 rfl) (fun g e h => HS2.out.own_ne HO2.out (by rw [e, h])))
          have HBU3 := Lib.hid (HBUT.out.trans (But.of_gr (S := fun q => q = b) hg3 rfl))
          have HBW3 := Lib.hid (below_gr HBW.out HBW.out.size hg3 hbw)
          have hs3z := HBU3.out.size
          have HTK := Lib.hid (iv_cyc_succ p k j xn hx.out)
          have hin := itP_in HG.out (i := (k : Int)) (by omega) (by rw [HL.out]; omega) (j + 1)
          have hyy : itP p k (j + 1) = y := by
            rw [itP, hx.out, nxP, List.getD, show ((xn : Int)).toNat = xn by omega, hy]
            rfl
          rw [hyy, HL.out] at hin
          obtain ⟨yn, rfl⟩ := Int.eq_ofNat_of_zero_le hin.1
          have hyn : yn < n := by omega
          have HY := Lib.hid hyy
          have i1 : (0 : Int) ≤ (xn : Int) := by omega
          have i2 : (xn : Int) < (n : Int) := by omega
          have hjJ : j < J := by omega
          clear hs3 hg3 c1 hy hyy hin e
          go_wp2_with (at_builtin; go_must (refine wpList_pushG slInt rfl _ _ rfl _ _ j (iv (cycTo p k j)) rfl HO3.out #[.int .i64 xn] _ rfl rfl rfl (uone_int _) (by unfold maxLen; omega) (by omega) hs3z ?_); go_must (intro A4 c4 w4 hown4 hb4 hg4; have cp1 := ((bcell (HBW3.out.trans (hb4.mono hwr))).1 g0 (o0 + xn) hbl).trans HC1.out; (have HO4 := Lib.hid hown4); (have HB4 := Lib.hid hb4); (have HG4 := Lib.hid hg4); clear hown4 hb4 hg4))
          go_roundw
          case rel => exact ⟨j + 1, yn, by omega, ⟨A4, c4, rfl⟩, rfl, HY, hyn, by rw [HTK.out]; exact HO4.out, HSN.out.grown HG4.out (HSN.out.own_ne HO3.out), HBU3.out.then_below HB4.out⟩
          case measure => simp [lenV]; omega
    · obtain rfl : k = n := by omega
      have HO := Lib.hid ho
      have HON := Lib.hid hon
      have HB := Lib.hid hb
      clear ho hon hs hb
      go_wp2_with fail
      go_ret2
      exact ⟨A', c', m, vs, rfl, hm.out, HO.out, HON.out, HB.out⟩
end

end Go.Proofs.Ytncjfijpaheobaa
