/-
  Lemmas and contracts (42): SmpRefBatch, MapB, SmpRefNew, Samp14, EpInv.
-/
import Derived.WalkKit
import Derived.WalkSpells
import Derived.WalkLawsBesides
import Derived.Lib.Hide
import Derived.Deep.QuietTactic
import Derived.BigQuiet
import Derived.IntWalk
import Derived.Deep.RegionHeld3
import Derived.Maps.AppendAt
import Derived.ProofKit
import Derived.OpenShut
import Derived.Deep.Slices
import Derived.Deep.Fields
import Derived.Test.YtkmaeipoaoikpaaGreatProg
import Derived.Laws.OwnMore
import Derived.Deep.Draws
import Derived.Laws.Rows
import Derived.Laws.EntriesVeiled
import Derived.RangeFuncNested
import Derived.RangeFuncBox
import Derived.RangeFuncLeaves
import Derived.Shelf.Abstract
import Derived.OwnWalkIn
import Derived.TacticsInMore
import Derived.LoopNIn
import Derived.LoopIn
import Derived.StillTail
import Derived.OrdersIn
import Derived.RangeFuncCalls
import Derived.OrdersHeld
import Derived.Laws.Bits64
import Derived.Deep.DeepMust
import Derived.Deep.DeepCutAuto
import Derived.BigRegion
import Derived.Maps.Own
import Derived.Maps.Views
import Derived.Maps.Keyed
import Derived.Maps.OwnOps
import Derived.Maps.Ext
import Derived.Carry
import Derived.Deep.OwnRows
import Derived.Laws.BitsAllLaws
import Derived.Test.YtkmaeipoaoikpaaGreatShelf
import Derived.Maps.OwnIn
import Derived.Test.YtkmaeipoaoikpaaGreatEA01
import Derived.Test.YtkmaeipoaoikpaaGreatEA02
import Derived.Test.YtkmaeipoaoikpaaGreatEA03
import Derived.Test.YtkmaeipoaoikpaaGreatEA04
import Derived.Test.YtkmaeipoaoikpaaGreatEA05
import Derived.Test.YtkmaeipoaoikpaaGreatEA06
import Derived.Test.YtkmaeipoaoikpaaGreatEA07
import Derived.Test.YtkmaeipoaoikpaaGreatEA09
import Derived.Test.YtkmaeipoaoikpaaGreatEA10
import Derived.Test.YtkmaeipoaoikpaaGreatEA14
import Derived.Test.YtkmaeipoaoikpaaGreatEA16
import Derived.Test.YtkmaeipoaoikpaaGreatEA17
import Derived.Test.YtkmaeipoaoikpaaGreatEA18
import Derived.Test.YtkmaeipoaoikpaaGreatEA19
import Derived.Test.YtkmaeipoaoikpaaGreatEA20
import Derived.Test.YtkmaeipoaoikpaaGreatEA21
import Derived.Test.YtkmaeipoaoikpaaGreatEA22
import Derived.Test.YtkmaeipoaoikpaaGreatEA23
import Derived.Test.YtkmaeipoaoikpaaGreatEA25
import Derived.Test.YtkmaeipoaoikpaaGreatEA26
import Derived.Test.YtkmaeipoaoikpaaGreatEA27
import Derived.Test.YtkmaeipoaoikpaaGreatEA28
import Derived.Test.YtkmaeipoaoikpaaGreatEA29
import Derived.Test.YtkmaeipoaoikpaaGreatEA40
import Derived.Test.YtkmaeipoaoikpaaGreatEA41
namespace Go.Proofs.YtkmaeipoaoikpaaGreat
set_option linter.unusedVariables false
set_option linter.unusedSimpArgs false
set_option maxRecDepth 100000
section
open Go.RowKit
abbrev rsmp (n b st : Nat) (Ao : Option Addr) (E co : Nat) : Value := .agg #[.int .i64 n, .int .i64 b, .int .i64 st, .slice Ao E co]
structure RSmp (w : World) (base n : Nat) (Ao : Option Addr) (E co : Nat) (os : List (List Int)) : Prop where
  ex : ∃ vs, w.ownsRow base 22 1 (.slice Ao E co) E (slsv vs) ∧ OwnN w base vs os
theorem RSmp.below {w w' : World} {base n : Nat} {Ao : Option Addr} {E co : Nat} {os : List (List Int)} (h : RSmp w base n Ao E co os) (hb : Below w.heap.size w w') : RSmp w' base n Ao E co os := by
  obtain ⟨vs, h1, h2⟩ := h.ex
  exact ⟨vs, own_below h1 hb, h2.below hb⟩
end
section
open Go.RowKit
variable (base b st q E n co : Nat) (Ao : Option Addr) (L : List Int) (w : World)
set_option maxHeartbeats 1000000 in
theorem refEpoch_no (t : Int) (ht : t < 0 ∨ st ≤ t) :
    Calls Tryz.prog 92 #[rsmp n b st Ao E co, .int .i64 t] w fun e w' => e = .returned (.tuple #[.int .i64 0, .int .i64 0, .bool false]) ∧ Below w.heap.size w w' := by
  by_cases h1 : t < 0
  · have e1 : decide (t < 0) = true := decide_eq_true h1
    clear ht
    go_enter Tryz.func92, Tryz.ntmps92
    go_wp2_with fail
    exact bodyPost_ret (v := .tuple #[.int .i64 0, .int .i64 0, .bool false]) (by simp [results, Tryz.results92, go_sem]) rfl ⟨rfl, (Below.refl _ _).alloc (Nat.le_refl _) _⟩
  · have e1 : decide (t < 0) = false := decide_eq_false h1
    have e2 : decide ((st : Int) ≤ t) = true := decide_eq_true (by omega)
    clear ht
    go_enter Tryz.func92, Tryz.ntmps92
    go_wp2_with fail
    exact bodyPost_ret (v := .tuple #[.int .i64 0, .int .i64 0, .bool false]) (by simp [results, Tryz.results92, go_sem]) rfl ⟨rfl, (Below.refl _ _).alloc (Nat.le_refl _) _⟩
set_option maxHeartbeats 1000000 in
theorem refEpoch_yes (P : SmpP n b st q E) (t : Nat) (ht : t < st) :
    Calls Tryz.prog 92 #[rsmp n b st Ao E co, .int .i64 t] w fun e w' => e = .returned (.tuple #[.int .i64 ((t / q : Nat) : Int), .int .i64 ((t % q : Nat) : Int), .bool true]) ∧ Below w.heap.size w w' := by
  have e1 : decide ((t : Int) < 0) = false := decide_eq_false (by omega)
  have e2 : decide ((st : Int) ≤ (t : Int)) = false := decide_eq_false (by omega)
  have e3 : decide (st ≤ t) = false := decide_eq_false (by omega)
  have hst := P.hst
  have hq := P.hq
  have hq2 := P.hq2
  have hb1 := P.hb1
  have hnn := P.hn
  have hbn := P.hbn
  have hw0 : IntKind.i64.wrap ((n : Int) / (b : Int)) = (q : Int) := by
    rw [← Int.natCast_ediv, P.hdiv, IntKind.wrap_i64]
    omega
  have hw0' : (n : Int) / (b : Int) = (q : Int) := by rw [← Int.natCast_ediv, P.hdiv]
  clear P
  go_enter Tryz.func92, Tryz.ntmps92
  go_wp2_with fail
  go_region
  go_wp2
  have hw1 : wrap64 ((t : Int) / (q : Int)) = (t : Int) / (q : Int) := by
    have hd := Nat.div_le_self t q
    rw [← Int.natCast_ediv]
    generalize t / q = d at hd ⊢
    exact IntWalk.wrap64_in _ (by omega)
  exact bodyPost_ret (v := .tuple #[.int .i64 ((t / q : Nat) : Int), .int .i64 ((t % q : Nat) : Int), .bool true]) (by simp [results, Tryz.results92, go_sem, hw1]) rfl ⟨rfl, ((Below.refl _ _).alloc (Nat.le_refl _) _).drew⟩
set_option maxHeartbeats 1000000 in
theorem refBatch_no (t : Int) (ht : t < 0 ∨ st ≤ t) :
    Calls Tryz.prog 27 #[rsmp n b st Ao E co, .int .i64 t] w (RdRet w 0 []) := by
  have HE := Lib.hid (fun W => refEpoch_no b st E n co Ao W t ht)
  clear ht
  go_enter Tryz.func27, Tryz.ntmps27
  go_wp2_with fail
  ((with_reducible refine (HE.out _).mono ?_); rintro e w1 ⟨rfl, hb1⟩)
  have HB := Lib.hid (((Below.refl w.heap.size w).alloc (Nat.le_refl _) (.cells #[.int .i64 n, .int .i64 b, .int .i64 st, .slice Ao E co] 84)).trans (hb1.mono (by simp)))
  clear hb1
  go_wp2_with fail
  go_ret
  exact RdRet.none _ _ HB.out
set_option maxHeartbeats 2000000 in
theorem refBatch_yes (P : SmpP n b st q E) (t : Nat) (ht : t < st) (h : RSmp w base n Ao E co (ordsL L n E)) :
    Calls Tryz.prog 27 #[rsmp n b st Ao E co, .int .i64 t] w (RdRet w b (batchL L n b q st t)) := by
  have HE := Lib.hid (fun W => refEpoch_yes b st q E n co Ao W P t ht)
  obtain ⟨vs, hro, hon⟩ := h.ex
  have hq := P.hq
  have hq2 := P.hq2
  have hb1 := P.hb1
  have hnn := P.hn
  have hqb := P.hqb
  have hst := P.hst
  have hmq : t % q < q := Nat.mod_lt _ (by omega)
  have hdE : t / q < E := by
    rw [← P.hE]
    refine (lt_cnt st q _ (by omega) hq).2 ?_
    have := Nat.div_mul_le_self t q
    omega
  have hfit : t % q * b + b ≤ n := by
    have h1 : (t % q + 1) * b ≤ q * b := Nat.mul_le_mul_right b hmq
    rw [Nat.succ_mul] at h1
    omega
  have HBL : Hid (batchL L n b q st t = ((pemL L n (t / q * (n - 1))).drop (t % q * b)).take b) := Lib.hid (by
    rw [batchL, if_pos ⟨by omega, by omega⟩]
    rfl)
  obtain ⟨e', he⟩ : ∃ e', t / q = e' := ⟨_, rfl⟩
  obtain ⟨i, hi⟩ : ∃ i, t % q = i := ⟨_, rfl⟩
  rw [he] at HE hdE HBL
  rw [hi] at HE hmq hfit HBL
  rw [HBL.out]
  have hmul : IntKind.i64.wrap ((i : Int) * (b : Int)) = ((i * b : Nat) : Int) := by
    rw [← Int.natCast_mul, IntKind.wrap_i64]
    omega
  obtain ⟨lo, hlo⟩ : ∃ lo, i * b = lo := ⟨_, rfl⟩
  rw [hlo] at hmul hfit HBL ⊢
  obtain ⟨s, hs⟩ : ∃ s, vs[e']? = some s := ⟨_, List.getElem?_eq_getElem (by rw [hon.len, ordsL_length]; exact hdE)⟩
  obtain ⟨Ae, ne, ce⟩ := s
  obtain ⟨hne, hre⟩ := hon.row e' _ _ hs (ordsL_get L n E e' hdE)
  have hne' : ne = n := by rw [pemL_length] at hne; exact hne
  subst hne'
  have HRE := Lib.hid (Rd.of_own hre)
  have hce : ne ≤ ce := by
    obtain ⟨_, _, q1, q2, _, _⟩ := own_form hre
    injection q1 with q4 _ q5
    simp only at q5
    subst q5
    exact q2
  obtain ⟨b1, o1, e1, hb1', c1⟩ := (Rd.of_own hro).2 (by omega)
  subst e1
  have d1 := c1 e' _ (slsv_get hs)
  have g3 : (0 : Int) ≤ (e' : Int) := by omega
  have g4 : (e' : Int) < (E : Int) := by omega
  have HLN : Hid ((pemL L ne (e' * (ne - 1))).length = ne) := Lib.hid (pemL_length _ _ _)
  clear hro hon hs hne hre c1 he hi hlo hqb P h
  have HG : Hid (∀ W, w.alloc (.cells #[.int .i64 ne, .int .i64 b, .int .i64 st, .slice (some ⟨b1, o1, none⟩) E co] 84) = W → Below w.heap.size w W ∧ Blk W w.heap.size 84 #[.int .i64 ne, .int .i64 b, .int .i64 st, .slice (some ⟨b1, o1, none⟩) E co]) := Lib.hid (by
    rintro W rfl
    exact ⟨(Below.refl _ _).alloc (Nat.le_refl _) _, Blk.new _ _ _⟩)
  go_enter Tryz.func27, Tryz.ntmps27
  go_wp2_with fail
  ((with_reducible refine (HE.out _).mono ?_); rintro e w1 ⟨rfl, hb9⟩)
  obtain ⟨hB, hK⟩ := HG.out _ rfl
  have hk1 := hK.kept hb9
  have hbw := hB.trans (hb9.mono hB.size)
  have HB9 := Lib.hid hbw
  have z1 : w1.cell? ⟨w.heap.size, 1, none⟩ = some (.int .i64 b) := hk1.cell 1
  have z3 : w1.cell? ⟨w.heap.size, 3, none⟩ = some (.slice (some ⟨b1, o1, none⟩) E co) := hk1.cell 3
  have z4 := hk1.lt
  have d1' := ((bcell hbw).1 b1 (o1 + e') hb1').trans d1
  have l2' : b1 < w1.heap.size := Nat.lt_of_lt_of_le hb1' hbw.size
  clear hb9 hbw hB hK hk1 d1 hb1' HE
  go_wp2_with fail
  go_region
  go_wp2
  rw [show lo + b - lo = b by omega]
  go_ret
  exact ⟨_, _, rfl, by omega, (rd_map (HRE.out.below HB9.out) HLN.out lo b hfit).drew, HB9.out.drew⟩
theorem refBatch_any (P : SmpP n b st q E) (t : Int) (h : RSmp w base n Ao E co (ordsL L n E)) :
    Calls Tryz.prog 27 #[rsmp n b st Ao E co, .int .i64 t] w (RdRet w (batchL L n b q st t).length (batchL L n b q st t)) := by
  by_cases ht : 0 ≤ t ∧ t < st
  · obtain ⟨T, rfl⟩ := Int.eq_ofNat_of_zero_le ht.1
    rw [batchL_length P L T (by omega)]
    exact refBatch_yes base b st q E n co Ao L w P T (by omega) h
  · rw [batchL_no L t (by omega)]
    exact refBatch_no b st E n co Ao w t (by omega)
end
section
open Go.RowKit
theorem own_notmap {w : World} {base : Nat} {e : TypeId} {size : Nat} {v : Value} {n : Nat} {xs : List Value} {g : Nat} {es : Array MapEntry} {clock : Nat} (h : w.ownsRow base e size v n xs) (hm : w.heap[g]? = some (.map es clock)) : v.ownBlock = none ∨ v.ownBlock ≠ some g := by
  rcases h.2 with ⟨rfl, _⟩ | ⟨g', cap, cur, rfl, _, hgb, _⟩
  · exact .inl rfl
  · refine .inr fun e' => ?_
    have e2 : g' = g := by simpa [Value.ownBlock] using e'
    subst e2
    rw [hm] at hgb
    cases hgb
theorem RSmp.mapped {w w' : World} {base n g : Nat} {Ao : Option Addr} {E co : Nat} {os : List (List Int)} {es : Array MapEntry} {clock : Nat} (h : RSmp w base n Ao E co os) (hm : w.heap[g]? = some (.map es clock)) (hg : w.grownBy w' (some g)) : RSmp w' base n Ao E co os := by
  obtain ⟨vs, h1, h2⟩ := h.ex
  exact ⟨vs, h1.kept hg (own_notmap h1 hm), ⟨h2.len, fun i s l a b => ⟨(h2.row i s l a b).1, (h2.row i s l a b).2.kept hg (own_notmap (h2.row i s l a b).2 hm)⟩⟩⟩
def mapD (x y : Bool) (b : Int) : DataW Unit :=
  let D0 : DataW Unit := .map []
  let D1 := if x then D0.put (.bool true) (.lit (.int .i64 b)) else D0
  if y then D1.put (.bool false) (.lit (.int .i64 0)) else D1
def MapB (w : World) (g : Nat) (x y : Bool) (b : Int) : Prop := ∃ n, n ≤ 2 ∧ w.ownsMap Tryz.prog 4 (plainElem Tryz.prog 3) g n (mapD x y b)
theorem boolKeyed : Maps.Keyed Tryz.prog 4 := Maps.bool_keyed Tryz.underlying4
theorem MapB.is {w : World} {g : Nat} {x y : Bool} {b : Int} (h : MapB w g x y b) : ∃ es clock, w.heap[g]? = some (.map es clock) := by
  obtain ⟨n, _, es, clock, h1, _⟩ := h
  exact ⟨es, clock, h1⟩
theorem MapB.lt {w : World} {g : Nat} {x y : Bool} {b : Int} (h : MapB w g x y b) : g < w.heap.size := by
  obtain ⟨n, _, h1⟩ := h
  exact h1.lt
theorem MapB.below {w w' : World} {g : Nat} {x y : Bool} {b : Int} (h : MapB w g x y b) (hb : Below w.heap.size w w') : MapB w' g x y b := by
  have hlt := h.lt
  obtain ⟨n, hn, es, clock, h1, h2⟩ := h
  exact ⟨n, hn, es, clock, (hb.block g hlt).trans h1, h2⟩
theorem MapB.made (w : World) (b : Int) : MapB (w.alloc (.map #[] 0)) w.heap.size false false b := ⟨0, by omega, World.ownsMap_made w _ _ _⟩
theorem mapD_size {w : World} {g n : Nat} {x y : Bool} {b : Int} {es : Array MapEntry} (h : mapD x y b = .map ((es.toList.map (WideElems.rg Tryz.prog 4 (plainElem (H := Unit) Tryz.prog 3))).foldr DataW.insert [])) : es.size ≤ 2 := by
  have hl : ∀ l : List (Lit × DataW Unit), mapD x y b = .map l → l.length ≤ 2 := by
    intro l hl
    cases x <;> cases y
    · have h0 : mapD false false b = .map [] := rfl
      rw [h0, DataW.map.injEq] at hl
      subst hl; simp
    · have h0 : mapD false true b = .map [(.bool false, .lit (.int .i64 0))] := rfl
      rw [h0, DataW.map.injEq] at hl
      subst hl; simp
    · have h0 : mapD true false b = .map [(.bool true, .lit (.int .i64 b))] := rfl
      rw [h0, DataW.map.injEq] at hl
      subst hl; simp
    · have h0 : mapD true true b = .map [(.bool false, .lit (.int .i64 0)), (.bool true, .lit (.int .i64 b))] := rfl
      rw [h0, DataW.map.injEq] at hl
      subst hl; simp
  have := hl _ h
  rw [length_sorted, List.length_map, Array.length_toList] at this
  exact this
theorem MapB.putT {w : World} {g : Nat} {y : Bool} {b : Int} (h : MapB w g false y b) (hw : (Lit.int .i64 b).wf = true) : ∃ w', (Instr.mapUpdate 88 (.map (some g)) (.bool true) (.int .i64 b)).run Tryz.prog w = .ok () w' ∧ MapB w' g true y b ∧ w.grownBy w' (some g) := by
  obtain ⟨n, hn, h1⟩ := h
  obtain ⟨w', e1, e2, e3⟩ := h1.update (t := 88) (e := 3) boolKeyed Tryz.underlying88 (by unfold maxLen; omega) (Maps.keyOf_bool_mk Tryz.underlying4 true) (plainElem_int Tryz.underlying3 hw)
  have e : (mapD false y b).put (.bool true) (.lit (.int .i64 b)) = mapD true y b := by cases y <;> rfl
  rw [e] at e2
  obtain ⟨es, clock, a1, a2, a3, a4⟩ := e2
  exact ⟨w', e1, ⟨2, Nat.le_refl _, es, clock, a1, a2, mapD_size (w := w) (g := g) (n := n) a4, a4⟩, e3⟩
theorem MapB.putF {w : World} {g : Nat} {x : Bool} {b : Int} (h : MapB w g x false b) : ∃ w', (Instr.mapUpdate 88 (.map (some g)) (.bool false) (.int .i64 0)).run Tryz.prog w = .ok () w' ∧ MapB w' g x true b ∧ w.grownBy w' (some g) := by
  obtain ⟨n, hn, h1⟩ := h
  obtain ⟨w', e1, e2, e3⟩ := h1.update (t := 88) (e := 3) boolKeyed Tryz.underlying88 (by unfold maxLen; omega) (Maps.keyOf_bool_mk Tryz.underlying4 false) (plainElem_int (a := 0) Tryz.underlying3 (by rfl))
  have e : (mapD x false b).put (.bool false) (.lit (.int .i64 0)) = mapD x true b := by cases x <;> rfl
  rw [e] at e2
  obtain ⟨es, clock, a1, a2, a3, a4⟩ := e2
  exact ⟨w', e1, ⟨2, Nat.le_refl _, es, clock, a1, a2, mapD_size (w := w) (g := g) (n := n) a4, a4⟩, e3⟩
theorem MapB.look {w : World} {g : Nat} {b : Int} (h : MapB w g true true b) (z : Bool) : (Instr.lookup 88 (.map (some g)) (.bool z) false).run Tryz.prog w = .ok (.int .i64 (if z then b else 0)) w := by
  obtain ⟨n, hn, h1⟩ := h
  obtain ⟨c, e1, e2, e3⟩ := h1.lookup_int (t := 88) boolKeyed Tryz.underlying88 Tryz.underlying3 (by rfl) (Maps.keyOf_bool_mk Tryz.underlying4 z)
  rw [e1]
  cases z
  · have h2 : (mapD true true b).atKey (.bool false) (.lit (.int .i64 0)) = .lit (.int .i64 0) := rfl
    rw [h2] at e2
    injection e2 with e2
    injection e2 with e2 e4
    subst e4
    rfl
  · have h2 : (mapD true true b).atKey (.bool true) (.lit (.int .i64 0)) = .lit (.int .i64 b) := rfl
    rw [h2] at e2
    injection e2 with e2
    injection e2 with e2 e4
    subst e4
    rfl
end
section
open Go.RowKit
theorem set4 {w : World} {g : Nat} {t : TypeId} {x y z u : Value} (h : Blk w g t #[x, y, z, u]) (a b c d : Value) :
    w.grownBy ((((w.setCell ⟨g, 0, none⟩ a).setCell ⟨g, 1, none⟩ b).setCell ⟨g, 2, none⟩ c).setCell ⟨g, 3, none⟩ d) (some g) ∧ Blk ((((w.setCell ⟨g, 0, none⟩ a).setCell ⟨g, 1, none⟩ b).setCell ⟨g, 2, none⟩ c).setCell ⟨g, 3, none⟩ d) g t #[a, b, c, d] :=
  ⟨gr_set (p := ⟨g, 3, none⟩) (gr_set (p := ⟨g, 2, none⟩) (gr_set (p := ⟨g, 1, none⟩) (gr_set (p := ⟨g, 0, none⟩) (World.grownBy.refl w _) (.inl rfl) a) (.inl rfl) b) (.inl rfl) c) (.inl rfl) d, by simpa using (((h.set_ 0 a).set_ 1 b).set_ 2 c).set_ 3 d⟩
abbrev noSmp : Value := .agg #[.int .i64 0, .int .i64 0, .int .i64 0, .slice none 0 0]
def RNewOut (w : World) (b st N n E : Nat) (L : List Int) (e : Ending) (w' : World) : Prop :=
  Below w.heap.size w w' ∧ ((E * (n - 1) ≤ N ∧ ∃ Ao co vs, e = .returned (.tuple #[.agg #[.int .i64 n, .int .i64 b, .int .i64 st, .slice Ao E co], .int .i64 0]) ∧ w'.ownsRow w.heap.size 22 1 (.slice Ao E co) E (slsv vs) ∧ OwnN w' w.heap.size vs (ordsL L n E)) ∨ (N < E * (n - 1) ∧ e = .returned (.tuple #[noSmp, .int .i64 8])))
end
section
open Go.RowKit
variable (n b st N cap q E : Nat) (A : Option Addr) (L : List Int) (w : World)
set_option maxHeartbeats 4000000 in
theorem refNew12_any (hb1 : 1 ≤ b) (hbn : b ≤ n) (hn : n ≤ 60) (hst : st ≤ 60) (hq : n / b = q) (hE : cnt st q = E) (hN2 : N ≤ 4000) (hl : L.length = N) (h : Rd w 1 A N (uv L)) (hu : InU L) :
    Calls Tryz.prog 93 #[.int .i64 n, .int .i64 b, .int .i64 st, .slice A N cap] w (RNewOut w b st N n E L) := by
  have e1 : decide ((n : Int) < 1) = false := decide_eq_false (by omega)
  have e2 : decide ((1048576 : Int) < (n : Int)) = false := decide_eq_false (by omega)
  have e3 : decide ((st : Int) < 0) = false := decide_eq_false (by omega)
  have e4 : decide ((1048576 : Int) < (st : Int)) = false := decide_eq_false (by omega)
  have e5 : decide ((b : Int) < 1) = false := decide_eq_false (by omega)
  have e6 : decide (n < b) = false := decide_eq_false (by omega)
  have hE60 : E ≤ 60 := by rw [← hE]; exact Nat.le_trans (cnt_le st q) hst
  have HEP := Lib.hid (fun W => (by have h := epochs_any n b st q W (by omega) hb1 hbn (by omega) hq; rw [hE] at h; exact h : Calls Tryz.prog 176 #[.int .i64 n, .int .i64 b, .int .i64 st] W fun e w' => e = .returned (.int .i64 (E : Nat)) ∧ W = w'))
  obtain ⟨m, hm⟩ : ∃ m, n - 1 = m := ⟨_, rfl⟩
  have HND := Lib.hid (fun W => (by have h := need_any n W (by omega); rw [hm] at h; exact h : Calls Tryz.prog 100 #[.int .i64 n] W fun e w' => e = .returned (.int .i64 (m : Nat)) ∧ W = w'))
  obtain ⟨Em, hEm⟩ : ∃ Em, E * m = Em := ⟨_, rfl⟩
  have hm60 : m ≤ 60 := by omega
  have hEmb : Em ≤ 3600 := by rw [← hEm]; exact Nat.le_trans (Nat.mul_le_mul hE60 hm60) (by omega)
  have hw : IntKind.i64.wrap ((E : Int) * (m : Int)) = (Em : Int) := by
    rw [← Int.natCast_mul, hEm, IntKind.wrap_i64]
    omega
  have HM := Lib.hid hm
  have HEM := Lib.hid hEm
  have HR := Lib.hid h
  have HL := Lib.hid hl
  have HU := Lib.hid hu
  clear h hl hu hq hE hm hEm
  have H0 : Hid (Below w.heap.size w (w.alloc (.cells #[.int .i64 0, .int .i64 0, .int .i64 0, .slice none 0 0] 84)) ∧ Blk (w.alloc (.cells #[.int .i64 0, .int .i64 0, .int .i64 0, .slice none 0 0] 84)) w.heap.size 84 #[.int .i64 0, .int .i64 0, .int .i64 0, .slice none 0 0]) := Lib.hid ⟨(Below.refl _ _).alloc (Nat.le_refl _) _, Blk.new _ _ _⟩
  go_enter Tryz.func93, Tryz.ntmps93
  go_wp2_with fail
  ((with_reducible refine (HEP.out _).mono ?_); rintro e wx ⟨rfl, rfl⟩)
  go_wp2_with fail
  ((with_reducible refine (HND.out _).mono ?_); rintro e wx ⟨rfl, rfl⟩)
  by_cases hfit : N < Em
  · have e7 : decide ((N : Int) < (Em : Int)) = true := decide_eq_true (by omega)
    have e7' : decide (N < Em) = true := decide_eq_true (by omega)
    go_wp2
    exact bodyPost_ret (v := .tuple #[noSmp, .int .i64 8]) (by simp [results, Tryz.results93, go_sem]) rfl ⟨((Below.refl _ _).alloc (Nat.le_refl _) _).alloc (by simp) _, .inr ⟨by rw [HM.out, HEM.out]; exact hfit, rfl⟩⟩
  · have e7 : decide ((N : Int) < (Em : Int)) = false := decide_eq_false (by omega)
    have e7' : decide (N < Em) = false := decide_eq_false (by omega)
    obtain ⟨g, hg⟩ : ∃ g, w.heap.size = g := ⟨_, rfl⟩
    have HX : Hid (∀ w3, ((w.alloc (.cells #[.int .i64 0, .int .i64 0, .int .i64 0, .slice none 0 0] 84)).alloc (.cells #[.int .i64 n, .int .i64 b, .int .i64 st, .slice none 0 0] 84)).alloc (.cells #[.slice A N cap, .int .i64 0] 316) = w3 → Below w.heap.size w w3 ∧ Blk w3 g 84 #[.int .i64 0, .int .i64 0, .int .i64 0, .slice none 0 0] ∧ Blk w3 (g + 1) 84 #[.int .i64 n, .int .i64 b, .int .i64 st, .slice none 0 0] ∧ Blk w3 (g + 1 + 1) 316 #[.slice A N cap, .int .i64 ((0 : Nat) : Int)]) := Lib.hid (by
      rintro w3 rfl
      exact ⟨(((Below.refl _ _).alloc (Nat.le_refl _) _).alloc (by simp) _).alloc (by simp; omega) _, ((Blk.new' _ _ hg).alloc _).alloc _, (Blk.new' _ _ (by simp [hg])).alloc _, Blk.new' _ _ (by simp [hg])⟩)
    go_wp2_with fail
    have HG := Lib.hid hg
    clear hg
    obtain ⟨w3, hw3⟩ : ∃ w3, ((w.alloc (.cells #[.int .i64 0, .int .i64 0, .int .i64 0, .slice none 0 0] 84)).alloc (.cells #[.int .i64 n, .int .i64 b, .int .i64 st, .slice none 0 0] 84)).alloc (.cells #[.slice A N cap, .int .i64 0] 316) = w3 := ⟨_, rfl⟩
    have HX3 := Lib.hid (HX.out w3 hw3)
    rw [hw3]
    clear hw3 HX H0
    have hfitN : Hid (Em ≤ N) := Lib.hid (by omega)
    have hfN : Em ≤ N := hfitN.out
    go_loopw [13] (fun c wr => ∃ (j t E' : Nat) (Ao : Option Addr) (co : Nat) (vs : List SlN), j ≤ E ∧ c = .int .i64 j ∧ Hid (t = j * m) ∧ Hid (E' = j) ∧ Blk wr g 84 #[.int .i64 0, .int .i64 0, .int .i64 0, .slice none 0 0] ∧ Blk wr (g + 1) 84 #[.int .i64 n, .int .i64 b, .int .i64 st, .slice Ao E' co] ∧ Blk wr (g + 1 + 1) 316 #[.slice A N cap, .int .i64 t] ∧ wr.ownsRow w3.heap.size 22 1 (.slice Ao E' co) E' (slsv vs) ∧ OwnN wr w3.heap.size vs (ordsL L n j) ∧ Below w.heap.size w wr ∧ w3.heap.size ≤ wr.heap.size) (fun c _ => E - (intOf c).toNat)
    case atStart => exact ⟨0, 0, 0, none, 0, [], by omega, rfl, Lib.hid (by simp), Lib.hid rfl, HX3.out.2.1, HX3.out.2.2.1, HX3.out.2.2.2, World.ownsRow_nil _ _ _ _, OwnN.nil _ _, HX3.out.1, Nat.le_refl _⟩
    case round =>
      obtain ⟨j, t, E', Ao, co, vs, hj, rfl, ht, hE', hz, hs, hst', ho, hon, hb, hsz⟩ := hrel
      have hwz := HX3.out.1.size
      have hg3 : g + 1 + 1 < w3.heap.size := HX3.out.2.2.2.lt
      by_cases hlt : j < E
      · obtain ⟨t', ht'⟩ : ∃ t', t + m = t' := ⟨_, rfl⟩
        have htN : t' ≤ N := by
          have h1 := Nat.mul_le_mul_right m (show j + 1 ≤ E from hlt)
          rw [HEM.out, Nat.succ_mul, ← ht.out, ht'] at h1
          omega
        have C := refShuf_at N cap n t A L wr HL.out (HR.out.below hb) HU.out (by omega) (by rw [HM.out, ht']; exact htN) (by omega)
        rw [HM.out, ht'] at C
        have HC := Lib.hid C
        have HT' : Hid (t' = (j + 1) * m) := Lib.hid (by rw [Nat.succ_mul, ← ht.out]; exact ht'.symm)
        have HPM : Hid (ordsL L n (j + 1) = ordsL L n j ++ [pemL L n t]) := Lib.hid (by rw [ordsL_succ, HM.out, ht.out])
        have HZ := Lib.hid hz
        have HS := Lib.hid hs
        have HST := Lib.hid hst'
        have HO := Lib.hid ho
        have HON := Lib.hid hon
        have HB := Lib.hid hb
        have hE60' : E' ≤ 60 := by rw [hE'.out]; omega
        have s0 : wr.cell? ⟨g + 1 + 1, 0, none⟩ = some (.slice A N cap) := hst'.cell 0
        have s1 : wr.cell? ⟨g + 1 + 1, 1, none⟩ = some (.int .i64 t) := hst'.cell 1
        have s2 := hst'.lt
        clear hz hs hst' ho hon hb C ht'
        go_wp2_with fail
        ((with_reducible refine HC.out.mono ?_); rintro e w5 ⟨A1, c1, rfl, hown5, hb5⟩)
        have S5 := HST.out.kept hb5
        have st5 := store2' S5 (.slice A N cap) (.int .i64 t')
        have HST5 := Lib.hid st5
        have cs0 := S5.cell 0
        have cs1 := S5.cell 1
        have fs0 := S5.frozen 0
        have fs1 := S5.frozen 1
        have l5 := S5.lt
        have HO5 := Lib.hid ((own_below HO.out hb5).kept st5.1 (.inr (own_blk_ne (own_below HO.out hb5) S5 (by decide))))
        have HN5 := Lib.hid ((HON.out.below hb5).but (But.of_gr (S := fun q => q = g + 1 + 1) st5.1 rfl) (fun v n xs q h e e' => own_blk_ne h S5 (by decide) (e.trans (by rw [e']))))
        have HP5 := Lib.hid (hown5.kept st5.1 (.inr (own_blk_ne hown5 S5 (by decide))))
        have HZ5 := Lib.hid ((HZ.out.kept hb5).grown st5.1 (by simp; omega))
        have HS5 := Lib.hid ((HS.out.kept hb5).grown st5.1 (by simp))
        have HB5 := Lib.hid (below_gr (HB.out.trans (hb5.mono HB.out.size)) (Nat.le_trans HB.out.size hb5.size) st5.1 (by have := HG.out; omega))
        have hsz5 : w3.heap.size ≤ w5.heap.size := Nat.le_trans hsz hb5.size
        have hs3 : w5.cell? ⟨g + 1, 3, none⟩ = some (.slice Ao E' co) := (HS.out.kept hb5).cell 3
        have hsl := (HS.out.kept hb5).lt
        have hsf := (HS.out.kept hb5).frozen 3
        clear hown5 hb5 S5 st5 s0 s1 s2
        obtain ⟨X, hX⟩ : ∃ X, ((w5.setCell ⟨g + 1 + 1, 0, none⟩ (.slice A N cap)).setCell ⟨g + 1 + 1, 1, none⟩ (.int .i64 t')).alloc (.cells #[.slice A N cap, .int .i64 t'] 316) = X := ⟨_, rfl⟩
        have HOa : Hid (X.ownsRow w3.heap.size 22 1 (.slice Ao E' co) E' (slsv vs)) := Lib.hid (by rw [← hX]; exact HO5.out.alloc _)
        have HNa : Hid (OwnN X w3.heap.size vs (ordsL L n j)) := Lib.hid (by rw [← hX]; exact HN5.out.below ((Below.refl _ _).alloc (Nat.le_refl _) _))
        have HPa : Hid (X.ownsRow w3.heap.size 3 1 (.slice A1 n c1) n (iv (pemL L n t))) := Lib.hid (by rw [← hX]; exact own_base (HP5.out.alloc _) hsz)
        have HZa : Hid (Blk X g 84 #[.int .i64 0, .int .i64 0, .int .i64 0, .slice none 0 0]) := Lib.hid (by rw [← hX]; exact HZ5.out.alloc _)
        have HSa : Hid (Blk X (g + 1) 84 #[.int .i64 n, .int .i64 b, .int .i64 st, .slice Ao E' co]) := Lib.hid (by rw [← hX]; exact HS5.out.alloc _)
        have HTa : Hid (Blk X (g + 1 + 1) 316 #[.slice A N cap, .int .i64 t']) := Lib.hid (by rw [← hX]; exact HST5.out.2.alloc _)
        have HBa : Hid (Below w.heap.size w X) := Lib.hid (by rw [← hX]; exact HB5.out.alloc HB5.out.size _)
        have hszX : w3.heap.size ≤ X.heap.size := by rw [← hX]; simp [World.setCell]; omega
        have HXX := Lib.hid hX
        have hXs : w5.heap.size + 1 = X.heap.size := by rw [← hX]; simp [World.setCell]
        have HXS := Lib.hid hXs
        have HSN := Lib.hid (slsv_snoc vs (A1, n, c1))
        clear hX hXs HO5 HN5 HP5 HZ5 HS5 HB5 HST5
        go_wp2_with (at_builtin; rw [HXX.out]; go_must (refine wpList_pushG slRows rfl _ _ rfl w3.heap.size _ E' (slsv vs) rfl HOa.out #[.slice A1 n c1] (w5.heap.size + 1) rfl HXS.out rfl (uone_sl _ _ _) (by unfold maxLen; omega) (by omega) hszX ?_); go_must (intro A6 c6 w6 hown6 hb6 hg6; (have HS6 := Lib.hid (HSa.out.other HOa.out hg6 (by decide))); (have d3 := HS6.out.cell 3); (have df := HS6.out.frozen 3); (have dl := HS6.out.lt); (have HO6 := Lib.hid hown6); (have HG6 := Lib.hid hg6); (have HB6 := Lib.hid hb6); clear hown6 hb6 hg6 HXX cs0 cs1 fs0 fs1 hs3 hsl hsf l5))
        have hst := blk_set3 HS6.out (.slice A6 (E' + 1) c6)
        have HST6 := Lib.hid hst
        clear hst d3 df
        go_roundw
        case rel =>
          refine ⟨j + 1, t', E' + 1, A6, c6, vs ++ [(A1, n, c1)], by omega, by go_num, HT', Lib.hid (by rw [hE'.out]), (HZa.out.other HOa.out HG6.out (by decide)).grown HST6.out.1 (by simp), HST6.out.2, (HTa.out.other HOa.out HG6.out (by decide)).grown HST6.out.1 (by simp), ?_, ?_, ?_, ?_⟩
          · rw [HSN.out]
            exact HO6.out.kept HST6.out.1 (.inr (own_blk_ne HO6.out HS6.out (by decide)))
          · rw [HPM.out]
            have hp6 := HPa.out.kept HG6.out (own_ne_own HPa.out HOa.out (by decide))
            refine OwnN.snoc ((HNa.out.rowkept HOa.out (by decide) HG6.out).but (But.of_gr (S := fun q => q = g + 1) HST6.out.1 rfl) (fun v n xs q h e e' => own_blk_ne h HS6.out (by decide) (e.trans (by rw [e'])))) (by rw [pemL_length]) (hp6.kept HST6.out.1 (.inr (own_blk_ne hp6 HS6.out (by decide))))
          · have h1 := HBa.out.trans (HB6.out.mono hwz)
            exact below_gr h1 h1.size HST6.out.1 (by have := HG.out; omega)
          · have := HB6.out.size
            simp [World.setCell]
            omega
        case measure => simp [intOf]; omega
      · obtain rfl : j = E := by omega
        obtain rfl : E' = j := hE'.out
        have HO := Lib.hid (own_base ho hwz)
        have HON := Lib.hid (hon.base hwz)
        have HB := Lib.hid hb
        have HZ := Lib.hid hz
        have HS := Lib.hid hs
        have s0 : wr.cell? ⟨g + 1, 0, none⟩ = some (.int .i64 n) := hs.cell 0
        have s1 : wr.cell? ⟨g + 1, 1, none⟩ = some (.int .i64 b) := hs.cell 1
        have s2 : wr.cell? ⟨g + 1, 2, none⟩ = some (.int .i64 st) := hs.cell 2
        have s3 : wr.cell? ⟨g + 1, 3, none⟩ = some (.slice Ao E' co) := hs.cell 3
        have s4 := hs.lt
        have z0 := hz.cell 0
        have z1 := hz.cell 1
        have z2 := hz.cell 2
        have z3 := hz.cell 3
        have z4 := hz.lt
        have y0 := hz.frozen 0
        have y1 := hz.frozen 1
        have y2 := hz.frozen 2
        have y3 := hz.frozen 3
        clear hz hs hst' ho hon hb
        go_wp2_with fail
        have hst4 := set4 HZ.out (.int .i64 n) (.int .i64 b) (.int .i64 st) (.slice Ao E' co)
        exact bodyPost_ret (v := .tuple #[.agg #[.int .i64 n, .int .i64 b, .int .i64 st, .slice Ao E' co], .int .i64 0]) (by simp [results, Tryz.results93, go_sem, z0, z1, z2, z3, z4]) rfl ⟨below_gr HB.out HB.out.size hst4.1 (by have := HG.out; omega), .inl ⟨by rw [HM.out, HEM.out]; exact hfN, Ao, co, vs, rfl, HO.out.kept hst4.1 (.inr (own_blk_ne HO.out HZ.out (by decide))), HON.out.but (But.of_gr (S := fun q => q = g) hst4.1 rfl) (fun v n xs q h e e' => own_blk_ne h HZ.out (by decide) (e.trans (by rw [e'])))⟩⟩
end
section
open Go.RowKit
theorem set4q {w : World} {g : Nat} {t : TypeId} {x y z u : Value} (h : Blk w g t #[x, y, z, u]) (a b c d : Value) :
    w.grownBy ((((w.setCell ⟨g, 0, none⟩ a).setCell ⟨g, 1, none⟩ b).setCell ⟨g, 2, none⟩ c).setCell ⟨g, 3, none⟩ d) (some g) ∧ Blk ((((w.setCell ⟨g, 0, none⟩ a).setCell ⟨g, 1, none⟩ b).setCell ⟨g, 2, none⟩ c).setCell ⟨g, 3, none⟩ d) g t #[a, b, c, d] :=
  ⟨gr_set (p := ⟨g, 3, none⟩) (gr_set (p := ⟨g, 2, none⟩) (gr_set (p := ⟨g, 1, none⟩) (gr_set (p := ⟨g, 0, none⟩) (World.grownBy.refl w _) (.inl rfl) a) (.inl rfl) b) (.inl rfl) c) (.inl rfl) d, by simpa using (((h.set_ 0 a).set_ 1 b).set_ 2 c).set_ 3 d⟩
theorem own_farq {w w' : World} {base g : Nat} {e : TypeId} {size : Nat} {v : Value} {n : Nat} {xs : List Value} (h : w.ownsRow base e size v n xs) (hg : w.grownBy w' (some g)) (hlt : g < base) : w'.ownsRow base e size v n xs := by
  refine h.kept hg ?_
  rcases h.2 with ⟨rfl, _⟩ | ⟨g', cap, cur, rfl, hb, _⟩
  · exact .inl rfl
  · refine .inr fun e' => ?_
    have e2 : g' = g := by simpa [Value.ownBlock] using e'
    omega
theorem RSmp.far {w w' : World} {base n g : Nat} {Ao : Option Addr} {E co : Nat} {os : List (List Int)} (h : RSmp w base n Ao E co os) (hg : w.grownBy w' (some g)) (hlt : g < base) : RSmp w' base n Ao E co os := by
  obtain ⟨vs, h1, h2⟩ := h.ex
  exact ⟨vs, own_farq h1 hg hlt, ⟨h2.len, fun i s l a b => ⟨(h2.row i s l a b).1, own_farq (h2.row i s l a b).2 hg hlt⟩⟩⟩
theorem RSmp.lower {w : World} {base base' n : Nat} {Ao : Option Addr} {E co : Nat} {os : List (List Int)} (h : RSmp w base n Ao E co os) (hb : base' ≤ base) : RSmp w base' n Ao E co os := by
  obtain ⟨vs, h1, h2⟩ := h.ex
  exact ⟨vs, own_base h1 hb, h2.base hb⟩
def Samp14Ret (m b st E : Nat) (L : List Int) (w : World) (e : Ending) (w' : World) : Prop := ∃ Ao co, e = .returned (rsmp m b st Ao E co) ∧ RSmp w' w.heap.size m Ao E co (ordsL L m E) ∧ Below w.heap.size w w'
set_option maxHeartbeats 2000000 in
theorem samp14_any (A : Option Addr) (n cap : Nat) (c : Cfg) (S : Option Addr) (m cS : Nat) (AP : Option Addr) (P cP : Nat) (AD : Option Addr) (D cD b st q E : Nat) (L : List Int) (w : World)
    (hb : c.ba = b) (hst : c.st = st) (hb1 : 1 ≤ b) (hbn : b ≤ m) (hm : m ≤ 60) (hs : st ≤ 60) (hq : m / b = q) (hE : cnt st q = E) (hD2 : D ≤ 4000) (hl : L.length = D) (h : Rd w 1 AD D (uv L)) (hu : InU L) (hneed : E * (m - 1) ≤ D) :
    Calls Tryz.prog 28 #[inV A n cap c S m cS AP P cP AD D cD] w (Samp14Ret m b st E L w) := by
  have HNW := Lib.hid (fun W (r : Rd W 1 AD D (uv L)) => refNew12_any m b st D cD q E AD L W hb1 hbn hm hs hq hE hD2 hl r hu)
  have HG : Hid (∀ W, (w.alloc (.cells (inC A n cap c S m cS AP P cP AD D cD) 29)).alloc (.cells #[.int .i64 0, .int .i64 0, .int .i64 0, .slice none 0 0] 84) = W → Below w.heap.size w W ∧ Blk W w.heap.size 29 (inC A n cap c S m cS AP P cP AD D cD) ∧ Blk W (w.heap.size + 1) 84 #[.int .i64 0, .int .i64 0, .int .i64 0, .slice none 0 0]) := Lib.hid (by
    rintro W rfl
    exact ⟨((Below.refl _ _).alloc (Nat.le_refl _) _).alloc (by simp) _, (Blk.new _ _ _).alloc _, Blk.new' _ _ (by simp)⟩)
  have HR := Lib.hid h
  have HN := Lib.hid hneed
  have HBB := Lib.hid hb
  have HST := Lib.hid hst
  clear hb hst hb1 hbn hm hs hq hE hD2 hl h hu hneed
  go_enter Tryz.func28, Tryz.ntmps28
  go_wp2_with fail
  obtain ⟨w0, hw0⟩ : ∃ w0, (w.alloc (.cells (inC A n cap c S m cS AP P cP AD D cD) 29)).alloc (.cells #[.int .i64 0, .int .i64 0, .int .i64 0, .slice none 0 0] 84) = w0 := ⟨_, rfl⟩
  obtain ⟨hB, hI, hX⟩ := HG.out _ hw0
  rw [hw0]
  have HB := Lib.hid hB
  have HI := Lib.hid hI
  have HX := Lib.hid hX
  clear hw0 HG hB hI hX
  have k := HI.out
  have c5 : w0.cell? ⟨w.heap.size, 5, none⟩ = some (.int .i64 c.ba) := k.cell 5
  have c7 : w0.cell? ⟨w.heap.size, 7, none⟩ = some (.int .i64 c.st) := k.cell 7
  have c12 : w0.cell? ⟨w.heap.size, 12, none⟩ = some (.slice S m cS) := k.cell 12
  have c14 : w0.cell? ⟨w.heap.size, 14, none⟩ = some (.slice AD D cD) := k.cell 14
  have cl := k.lt
  clear k
  go_wp2_with fail
  rw [HBB.out, HST.out]
  ((with_reducible refine (HNW.out _ (HR.out.below HB.out)).mono ?_); rintro e w1 ⟨hb1, (⟨-, Ao, co, vs, rfl, ho1, hn1⟩ | ⟨hbad, -⟩)⟩)
  rotate_left
  · exfalso
    have := HN.out
    omega
  have HB1 := Lib.hid (HB.out.trans (hb1.mono HB.out.size))
  have HX1 := Lib.hid (HX.out.kept hb1)
  have HRS := Lib.hid (RSmp.mk ⟨vs, ho1, hn1⟩ : RSmp w1 w0.heap.size m Ao E co (ordsL L m E))
  clear hb1 ho1 hn1 c5 c7 c12 c14 cl
  have m0 := HX1.out
  have x0 : w1.cell? ⟨w.heap.size + 1, 0, none⟩ = some (.int .i64 0) := m0.cell 0
  have x1 : w1.cell? ⟨w.heap.size + 1, 1, none⟩ = some (.int .i64 0) := m0.cell 1
  have x2 : w1.cell? ⟨w.heap.size + 1, 2, none⟩ = some (.int .i64 0) := m0.cell 2
  have x3 : w1.cell? ⟨w.heap.size + 1, 3, none⟩ = some (.slice none 0 0) := m0.cell 3
  have f0 := m0.frozen 0
  have f1 := m0.frozen 1
  have f2 := m0.frozen 2
  have f3 := m0.frozen 3
  have lx := m0.lt
  clear m0
  go_wp2_with fail
  have hst := set4q HX1.out (.int .i64 m) (.int .i64 b) (.int .i64 st) (.slice Ao E co)
  have hlt0 := HX.out.lt
  refine bodyPost_ret (v := rsmp m b st Ao E co) (by simp [results, Tryz.results28, go_sem, x0, x1, x2, x3, lx]) rfl ⟨Ao, co, rfl, ?_, ?_⟩
  · exact ((HRS.out.far hst.1 hlt0).below ((Below.refl _ _).alloc (Nat.le_refl _) _)).lower HB.out.size
  · exact (below_gr HB1.out HB1.out.size hst.1 (by omega)).alloc (by have := HB1.out.size; have := hst.1.size; omega) _
end
section
open Go.RowKit
structure EpInv (we : World) (m b st E len : Nat) (L0 : List Int) (L : Nat → Bool) (vs : Nat → Value) (w : World) : Prop where
  k : Kept we w
  s10 : L 10 = true → ∃ Ao co, vs 10 = rsmp m b st Ao E co ∧ RSmp w 0 m Ao E co (ordsL L0 m E)
  s11 : L 11 = true → ∃ A c, vs 11 = .slice A len c
  s12 : L 12 = true → vs 12 = .int .i64 len
  s13 : L 13 = true → ∃ g, vs 13 = .map (some g) ∧ we.heap.size ≤ g ∧ MapB w g (L 15) (L 16) b
  s17 : L 17 = true → vs 17 = vs 13 ∧ L 13 = true ∧ L 15 = true ∧ L 16 = true
  s22 : L 22 = true → vs 22 = .int .i64 len
  n13 : L 13 = false → L 15 = false ∧ L 16 = false
  s23 : L 23 = true → vs 23 = .bool true
  s24 : L 24 = true → vs 24 = .bool true
end
section
open Go.RowKit
variable {we : World} {m b st E len : Nat} {L0 : List Int} {L : Nat → Bool} {vs : Nat → Value} {w w' : World} {v : Value}
theorem EpInv.start (hk : Kept we w) (h : ∀ k ∈ [10, 11, 12, 13, 15, 16, 17, 22, 23, 24], L k = false) : EpInv we m b st E len L0 L vs w := by
  have hx : ∀ k, k ∈ [10, 11, 12, 13, 15, 16, 17, 22, 23, 24] → ¬ L k = true := fun k hk e => by rw [h k hk] at e; cases e
  exact ⟨hk, fun e => absurd e (hx 10 (by simp)), fun e => absurd e (hx 11 (by simp)), fun e => absurd e (hx 12 (by simp)), fun e => absurd e (hx 13 (by simp)), fun e => absurd e (hx 17 (by simp)), fun e => absurd e (hx 22 (by simp)), fun _ => ⟨h 15 (by simp), h 16 (by simp)⟩, fun e => absurd e (hx 23 (by simp)), fun e => absurd e (hx 24 (by simp))⟩
theorem EpInv.mk10 (h : EpInv we m b st E len L0 L vs w) (hb : Below w.heap.size w w') {Ao : Option Addr} {co : Nat} (hr : RSmp w' 0 m Ao E co (ordsL L0 m E)) : EpInv we m b st E len L0 (fun k => decide (k = 10) || L k) (updV vs 10 (rsmp m b st Ao E co)) w' :=
  ⟨h.k.call hb, fun _ => ⟨Ao, co, rfl, hr⟩, h.s11, h.s12, fun e => (by obtain ⟨g, a1, a2, a3⟩ := h.s13 e; exact ⟨g, a1, a2, a3.below hb⟩), h.s17, h.s22, h.n13, h.s23, h.s24⟩
theorem EpInv.mk11 (h : EpInv we m b st E len L0 L vs w) (hb : Below w.heap.size w w') (A : Option Addr) (c : Nat) : EpInv we m b st E len L0 (fun k => decide (k = 11) || L k) (updV vs 11 (.slice A len c)) w' :=
  ⟨h.k.call hb, fun e => (by obtain ⟨Ao, co, a1, a2⟩ := h.s10 e; exact ⟨Ao, co, a1, a2.below hb⟩), fun _ => ⟨A, c, rfl⟩, h.s12, fun e => (by obtain ⟨g, a1, a2, a3⟩ := h.s13 e; exact ⟨g, a1, a2, a3.below hb⟩), h.s17, h.s22, h.n13, h.s23, h.s24⟩
theorem EpInv.mk12 (h : EpInv we m b st E len L0 L vs w) : EpInv we m b st E len L0 (fun k => decide (k = 12) || L k) (updV vs 12 (.int .i64 len)) w :=
  ⟨h.k, h.s10, h.s11, fun _ => rfl, h.s13, h.s17, h.s22, h.n13, h.s23, h.s24⟩
theorem EpInv.mk13 (h : EpInv we m b st E len L0 L vs w) (hL : L 13 = false) : EpInv we m b st E len L0 (fun k => decide (k = 13) || L k) (updV vs 13 (.map (some w.heap.size))) (w.alloc (.map #[] 0)) := by
  have hb : Below w.heap.size w (w.alloc (.map #[] 0)) := (Below.refl _ _).alloc (Nat.le_refl _) _
  obtain ⟨h5, h6⟩ := h.n13 hL
  refine ⟨h.k.call hb, fun e => (by obtain ⟨Ao, co, a1, a2⟩ := h.s10 e; exact ⟨Ao, co, a1, a2.below hb⟩), h.s11, h.s12, fun _ => ⟨_, rfl, h.k.2.1, ?_⟩, fun e => ?_, h.s22, fun e => (by cases e), h.s23, h.s24⟩
  · have := MapB.made w (b : Int)
    show MapB _ _ (L 15) (L 16) _
    rw [h5, h6]
    exact this
  · have := (h.s17 e).2.1
    rw [hL] at this
    cases this
theorem EpInv.mk15 (h : EpInv we m b st E len L0 L vs w) (h13 : L 13 = true) {g : Nat} (hv : vs 13 = .map (some g)) (hg : w.grownBy w' (some g)) (hm : MapB w' g true (L 16) b) : EpInv we m b st E len L0 (fun k => decide (k = 15) || L k) (updV vs 15 v) w' := by
  obtain ⟨g', a1, a2, a3⟩ := h.s13 h13
  obtain rfl : g' = g := by rw [hv] at a1; injection a1 with a1; injection a1 with a1; exact a1.symm
  obtain ⟨es, cl, hes⟩ := a3.is
  exact ⟨Kept.of (h.k.2.2.grown hg h.k.2.1 (fun k e => by injection e with e; omega)), fun e => (by obtain ⟨Ao, co, b1, b2⟩ := h.s10 e; exact ⟨Ao, co, b1, b2.mapped hes hg⟩), h.s11, h.s12, fun _ => ⟨g', a1, a2, hm⟩, fun e => ⟨(h.s17 e).1, (h.s17 e).2.1, rfl, (h.s17 e).2.2.2⟩, h.s22, fun e => (by rw [show (decide ((13 : Nat) = 15) || L 13) = L 13 from rfl] at e; rw [h13] at e; cases e), h.s23, h.s24⟩
theorem EpInv.mk16 (h : EpInv we m b st E len L0 L vs w) (h13 : L 13 = true) {g : Nat} (hv : vs 13 = .map (some g)) (hg : w.grownBy w' (some g)) (hm : MapB w' g (L 15) true b) : EpInv we m b st E len L0 (fun k => decide (k = 16) || L k) (updV vs 16 v) w' := by
  obtain ⟨g', a1, a2, a3⟩ := h.s13 h13
  obtain rfl : g' = g := by rw [hv] at a1; injection a1 with a1; injection a1 with a1; exact a1.symm
  obtain ⟨es, cl, hes⟩ := a3.is
  exact ⟨Kept.of (h.k.2.2.grown hg h.k.2.1 (fun k e => by injection e with e; omega)), fun e => (by obtain ⟨Ao, co, b1, b2⟩ := h.s10 e; exact ⟨Ao, co, b1, b2.mapped hes hg⟩), h.s11, h.s12, fun _ => ⟨g', a1, a2, hm⟩, fun e => ⟨(h.s17 e).1, (h.s17 e).2.1, (h.s17 e).2.2.1, rfl⟩, h.s22, fun e => (by rw [show (decide ((13 : Nat) = 16) || L 13) = L 13 from rfl] at e; rw [h13] at e; cases e), h.s23, h.s24⟩
theorem EpInv.mk17 (h : EpInv we m b st E len L0 L vs w) (h13 : L 13 = true) (h15 : L 15 = true) (h16 : L 16 = true) {g : Nat} (hv : vs 13 = .map (some g)) : EpInv we m b st E len L0 (fun k => decide (k = 17) || L k) (updV vs 17 (.map (some g))) w :=
  ⟨h.k, h.s10, h.s11, h.s12, h.s13, fun _ => ⟨hv.symm, h13, h15, h16⟩, h.s22, h.n13, h.s23, h.s24⟩
theorem EpInv.mk22 (h : EpInv we m b st E len L0 L vs w) : EpInv we m b st E len L0 (fun k => decide (k = 22) || L k) (updV vs 22 (.int .i64 len)) w :=
  ⟨h.k, h.s10, h.s11, h.s12, h.s13, h.s17, fun _ => rfl, h.n13, h.s23, h.s24⟩
theorem EpInv.mk23 (h : EpInv we m b st E len L0 L vs w) : EpInv we m b st E len L0 (fun k => decide (k = 23) || L k) (updV vs 23 (.bool true)) w :=
  ⟨h.k, h.s10, h.s11, h.s12, h.s13, h.s17, h.s22, h.n13, fun _ => rfl, h.s24⟩
theorem EpInv.mk24 (h : EpInv we m b st E len L0 L vs w) : EpInv we m b st E len L0 (fun k => decide (k = 24) || L k) (updV vs 24 (.bool true)) w :=
  ⟨h.k, h.s10, h.s11, h.s12, h.s13, h.s17, h.s22, h.n13, h.s23, fun _ => rfl⟩
end
end Go.Proofs.YtkmaeipoaoikpaaGreat
