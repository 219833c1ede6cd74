/-
  Lemmas and contracts (44): Leave, NumsOpen, InOpen.
-/
import Derived.Conc.LeavingOf
import Derived.SizedLaws
import Derived.WalkKit
import Derived.WalkSpells
import Derived.WalkLawsBesides
import Derived.Lib.Hide
import Derived.Deep.QuietTactic
import Derived.BigQuiet
import Derived.IntWalk
import Derived.Deep.RegionHeld3
import Derived.Maps.AppendAt
import Derived.ProofKit
import Derived.OpenShut
import Derived.Deep.Slices
import Derived.Deep.Fields
import Derived.Test.YtkmaeipoaoikpaaGreatProg
import Derived.Laws.OwnMore
import Derived.Deep.Draws
import Derived.Laws.Rows
import Derived.Laws.EntriesVeiled
import Derived.RangeFuncNested
import Derived.RangeFuncBox
import Derived.RangeFuncLeaves
import Derived.Shelf.Abstract
import Derived.OwnWalkIn
import Derived.TacticsInMore
import Derived.LoopNIn
import Derived.LoopIn
import Derived.StillTail
import Derived.OrdersIn
import Derived.RangeFuncCalls
import Derived.OrdersHeld
import Derived.Laws.Bits64
import Derived.Deep.DeepMust
import Derived.Deep.DeepCutAuto
import Derived.BigRegion
import Derived.Laws.BitsAllLaws
import Derived.Test.YtkmaeipoaoikpaaGreatShelf
import Derived.Maps.Own
import Derived.Maps.Views
import Derived.Maps.Keyed
import Derived.Maps.OwnOps
import Derived.Maps.Ext
import Derived.Carry
import Derived.Deep.OwnRows
import Derived.Test.YtkmaeipoaoikpaaGreatEA01
import Derived.Test.YtkmaeipoaoikpaaGreatEA02
import Derived.Test.YtkmaeipoaoikpaaGreatEA03
import Derived.Test.YtkmaeipoaoikpaaGreatEA04
import Derived.Test.YtkmaeipoaoikpaaGreatEA05
import Derived.Test.YtkmaeipoaoikpaaGreatEA06
import Derived.Test.YtkmaeipoaoikpaaGreatEA07
import Derived.Test.YtkmaeipoaoikpaaGreatEA09
import Derived.Test.YtkmaeipoaoikpaaGreatEA10
import Derived.Test.YtkmaeipoaoikpaaGreatEA16
import Derived.Test.YtkmaeipoaoikpaaGreatEA17
import Derived.Test.YtkmaeipoaoikpaaGreatEA18
import Derived.Test.YtkmaeipoaoikpaaGreatEA19
import Derived.Test.YtkmaeipoaoikpaaGreatEA20
import Derived.Test.YtkmaeipoaoikpaaGreatEA21
import Derived.Test.YtkmaeipoaoikpaaGreatEA22
import Derived.Test.YtkmaeipoaoikpaaGreatEA23
import Derived.Test.YtkmaeipoaoikpaaGreatEA25
import Derived.Test.YtkmaeipoaoikpaaGreatEA26
import Derived.Test.YtkmaeipoaoikpaaGreatEA28
import Derived.Test.YtkmaeipoaoikpaaGreatEA29
namespace Go.Proofs.YtkmaeipoaoikpaaGreat
set_option linter.unusedVariables false
set_option linter.unusedSimpArgs false
set_option maxRecDepth 100000
theorem leaving_of_lone {P : Program} {n : Nat} {m : Machine} {fr : Frame} {w w' : World} (h : runN P n m = .next (lone fr [] w)) : leavingAtReturn P (lone fr [] w) w' (runNT P (n + 1) m #[]).2 :=
  ⟨handedOver_of_lone h, ⟨fun g hg => by simp [lone] at hg, rfl⟩, fun i g hg hi => by
    cases i with
    | zero => exact absurd rfl hi
    | succ k => simp [lone] at hg⟩
theorem returnsInLeaving_of_calls {a : Assume} {C : Checked} {os : Os} {f : FuncId} {r : Reach} {Pre : World → Array Value → Prop} {Post : World → Array Value → Value → World → Prop}
    (own : ownKnob C.prog.godebug = none) (started : os.Started) (noInit : C.prog.inits.idxOf? f = none)
    (witness : ∃ (w : World) (tape : Tape) (i : Input), w.os = os ∧ (w.forCall tape i).Shaped C.prog ∧ i.vars = [] ∧ Input.okWide C.prog (w.forCall tape i) r w.heap.size f i ∧ Pre (w.forCall tape i).memory i.args ∧
      a.holds C.prog (lone (Frame.enter C.prog f i.args .normal) [] (w.forCall tape i)))
    (contract : ∀ (w : World) (tape : Tape) (i : Input), w.os = os → (w.forCall tape i).ShapedOpen C.prog → i.vars = [] → Input.okWide C.prog (w.forCall tape i) r w.heap.size f i → Pre (w.forCall tape i).memory i.args →
      a.holds C.prog (lone (Frame.enter C.prog f i.args .normal) [] (w.forCall tape i)) →
      Calls C.prog f i.args (w.forCall tape i) fun
        | .returned v, w' => Post (w.forCall tape i).blind i.args v w'.blind
        | _, _ => False) :
    ReturnsInLeavingWide a C os f r Pre Post := fun enter => by
  obtain ⟨w0, t0, i0, a1, a2, a3, a4, a5, a6⟩ := witness
  refine ⟨enter, own, started, ⟨w0, t0, i0, a1, a2, a3, a4, a5, a6, trivial⟩, fun w tape i h => ?_⟩
  obtain ⟨n, v, w', fr, hn, hend, hp⟩ := (contract w tape i h.1 h.2.1 h.2.2.1 h.2.2.2.1 h.2.2.2.2.1 h.2.2.2.2.2.1).done_lone noInit
  exact ⟨n + 1, v, w', hend, (clean_of_lone hn).2, roomy_placeholder .., hp, ⟨n, _, hn, step_of_runs hn hend, leaving_of_lone hn⟩, fun _ _ _ => trivial⟩
section
variable {H : Type} {enc : TypeId × Value → H}
theorem returnsInLeaving_of_change_sized {a : Assume} {C : Checked} {os : Os} {f : FuncId} {fn : Func} {s : ChangeSpec} {conds : List PathCond} {apart fresh handsOn again : Bool}
    (own : ownKnob C.prog.godebug = none) (started : os.Started) (noInit : C.prog.inits.idxOf? f = none) (hfn : C.prog.funcs[f]? = some fn)
    (witness : ∃ (w : World) (tape : Tape) (i : Input), w.os = os ∧ (w.forCall tape i).Shaped C.prog ∧ i.vars = [] ∧ Input.okWide C.prog (w.forCall tape i) .any w.heap.size f i ∧
      s.pre6 enc C.prog fn conds apart (w.forCall tape i).memory i.args ∧ a.holds C.prog (lone (Frame.enter C.prog f i.args .normal) [] (w.forCall tape i)))
    (contract : ∀ (W : World) (base : Nat) (args : Array Value) (ds gs : List (DataW H)) (before : List MemPlace),
      (∀ (j : Nat) t v, fn.params[j]? = some t → args[j]? = some v → Value.okWide C.prog W .any base t v) →
      DataW.Whole enc C.prog fn.params.toList s.vars apart W args.toList ds gs before →
      conds.all (PathCond.test C.prog ⟨fn.params.toList, ds, s.plain.varTypes C.prog, gs⟩) = true →
      (DataW.weightsEach C.prog (fn.params.toList ++ s.plain.varTypes C.prog) (ds ++ gs)).all (· ≤ reachBytes) = true →
      a.holds C.prog (lone (Frame.enter C.prog f args .normal) [] W) →
      Calls C.prog f args W fun e W' => ∃ v, e = .returned v ∧ s.post enc C.prog fn apart fresh handsOn again W args v W') :
    ReturnsInLeavingWide a C os f .any (s.pre6 enc C.prog fn conds apart) (s.post enc C.prog fn apart fresh handsOn again) := by
  refine returnsInLeaving_of_calls own started noInit witness ?_
  intro w tape i _ _ _ hok hpre hholds
  obtain ⟨_, _, _, fn', hfn', _, _, _, _, hval⟩ := hok
  have e : fn' = fn := Option.some.inj (hfn'.symm.trans hfn)
  subst e
  obtain ⟨⟨ds, gs, before, hw, hc⟩, hz⟩ := hpre
  have hw' := DataW.Whole.of_heap (w' := w.forCall tape i) (by rfl) hw
  refine (contract (w.forCall tape i) w.heap.size i.args ds gs before hval hw' hc (hz.weights hw) hholds).mono fun e W' ⟨v, he, hp⟩ => ?_
  subst he
  exact ChangeSpec.post_blind hp
end
section
open Go.ChangeShapes Go.WideShapes Go.ChangeAt Go.RowKit
theorem rd_of_cells {w : World} {a : Addr} {n : Nat} {xs : List Value} (hn : xs.length = n) (h : ∀ i u, xs[i]? = some u → w.cell? (a.add i) = some u) : Rd w 1 (some a) n xs := by
  refine ⟨by omega, fun h0 => ?_⟩
  obtain ⟨b, o, sp⟩ := a
  have h0' := h 0 xs[0] (List.getElem?_eq_getElem (by omega))
  have hs : sp = none := by
    have := World.cell?_spot h0'
    simpa [Addr.add] using this
  subst hs
  refine ⟨b, o, rfl, ?_, fun j u hu => ?_⟩
  · have := World.block_lt_of_cell? w _ h0'
    simpa [Addr.add] using this
  · have hc := h j u hu
    rwa [show ((⟨b, o, none⟩ : Addr).add j) = ⟨b, o + j, none⟩ by unfold Addr.add; by_cases hj : j = 0 <;> simp [hj]] at hc
end
section
open Go.ChangeShapes Go.WideShapes Go.ChangeAt Go.RowKit
variable {H : Type} {enc : TypeId × Value → H} {P : Program} {w : World} {base : Nat} {spare : Nat → Bool} {held : Bool} {r : Reach} {b0 : Nat} {t e : TypeId} {v : Value} {d : DataW H} {p : List MemPlace}
theorem nums_of {k : IntKind} {fuel : Nat} {c : Value} {x : DataW H × List MemPlace} (ht : P.underlying t = some (.slice e)) (he : P.underlying e = some (.int k)) (hc : P.cellsOf e = 1)
    (h : DataW.trod enc P w base spare held fuel t [c] = some x) :
    ∃ (A : Option Addr) (n cap : Nat) (l : List Int), c = .slice A n cap ∧ (n ≤ 9223372036854775807 ∧ n ≤ cap ∧ cap ≤ 9223372036854775807) ∧ l.length = n ∧ Rd w 1 A n (l.map (Value.int k)) ∧ (∀ z ∈ l, (Lit.int k z).wf = true) ∧
      ((n = 0 ∧ x.1 = .nil) ∨ ∃ es sp, x.1 = .slice es sp ∧ n ≤ es.length + sp.length) := by
  rcases Go.Deep.open_slice1 ht hc h with ⟨hcs, hx⟩ | ⟨a, n, cap, m, fu, V, D, Pl, hcs, _, hl, hm, hmm, hx, hi⟩
  · simp at hcs
    subst hcs
    exact ⟨none, 0, 0, [], rfl, by simp, rfl, Rd.nil _ _ _, by simp, .inl ⟨rfl, by rw [hx]⟩⟩
  · simp at hcs
    subst hcs
    have hnm : n ≤ m := by rw [hmm]; split <;> omega
    have hall : ∀ i, i < n → ∃ z : Int, V i = .int k z ∧ (Lit.int k z).wf = true := by
      intro i him
      obtain ⟨_, ht⟩ := hi i (by omega)
      obtain ⟨n5, h5, w5⟩ := int_of he ht
      exact ⟨n5, h5, w5⟩
    obtain ⟨f, hf'⟩ := Go.Deep.choose_lt hall
    refine ⟨some a, n, cap, (List.range n).map f, rfl, by unfold maxLen at hm; omega, by simp, rd_of_cells (by simp) (fun i u hu => ?_), ?_, .inr ⟨_, _, by rw [hx], by simp⟩⟩
    · have hin : i < n := by have := (List.getElem?_eq_some_iff.1 hu).1; simpa using this
      rw [(hi i (by omega)).1, (hf' i hin).1, ← hu]
      simp [hin]
    · intro x hx
      simp only [List.mem_map, List.mem_range] at hx
      obtain ⟨i, hi, rfl⟩ := hx
      exact (hf' i hi).2
end
section
open Go.ChangeShapes Go.WideShapes Go.ChangeAt Go.RowKit
theorem list15 {α : Type} {l : List α} (h : l.length = 15) : ∃ a0 a1 a2 a3 a4 a5 a6 a7 a8 a9 a10 a11 a12 a13 a14, l = [a0, a1, a2, a3, a4, a5, a6, a7, a8, a9, a10, a11, a12, a13, a14] := by
  match l, h with
  | [a0, a1, a2, a3, a4, a5, a6, a7, a8, a9, a10, a11, a12, a13, a14], _ => exact ⟨_, _, _, _, _, _, _, _, _, _, _, _, _, _, _, rfl⟩
theorem addr_addq (b o j : Nat) : (⟨b, o, none⟩ : Addr).add j = ⟨b, o + j, none⟩ := by
  unfold Addr.add
  by_cases h : j = 0 <;> simp [h]
theorem exV_length (es : List ExS) : (exV es).length = es.length * 2 := by
  induction es with
  | nil => rfl
  | cons e l ih => rw [exV_cons, List.length_cons, List.length_cons, ih, List.length_cons]; omega
theorem inU_wf {l : List Int} (h : ∀ z ∈ l, (Lit.int .u64 z).wf = true) : InU l := fun x hx => by
  have h1 := h x hx
  simp only [Lit.wf, Bool.and_eq_true, decide_eq_true_eq] at h1
  have h2 : (0 : Int) ≤ x := h1.1
  have h3 : x ≤ (18446744073709551615 : Int) := h1.2
  exact ⟨h2, by omega⟩
structure ExAt (w : World) (e : ExS) (z : List Int × List Int) : Prop where
  xl : z.1.length = e.1.2.1
  xr : Rd w 1 e.1.1 e.1.2.1 (iv z.1)
  xi : AllIn z.1
  xc : e.1.2.1 ≤ e.1.2.2
  yl : z.2.length = e.2.2.1
  yr : Rd w 1 e.2.1 e.2.2.1 (iv z.2)
  yi : AllIn z.2
  yc : e.2.2.1 ≤ e.2.2.2
end
section
open Go.ChangeShapes Go.WideShapes Go.ChangeAt Go.RowKit
variable {H : Type} {enc : TypeId × Value → H} {w : World} {base : Nat} {spare : Nat → Bool} {held : Bool} {r : Reach} {b0 : Nat} {v : Value} {d : DataW H} {p : List MemPlace}
set_option maxRecDepth 100000 in
theorem exs_of {fuel : Nat} {c : Value} {x : DataW H × List MemPlace} (hf : DataW.trod enc Tryz.prog w base spare held fuel 25 [c] = some x) :
    ∃ (S : Option Addr) (m cS : Nat) (es : List ExS) (zs : List (List Int × List Int)), c = .slice S m cS ∧ es.length = m ∧ zs.length = m ∧ Rd w 2 S m (exV es) ∧ ∀ (i : Nat) (e : ExS) (z : List Int × List Int), es[i]? = some e → zs[i]? = some z → ExAt w e z := by
  have hc3 : Tryz.prog.cellsOf 26 = 1 := by kernel_rfl
  have hcr : Tryz.prog.cellsOf 162 = 2 := by kernel_rfl
  rcases Go.Deep.open_slice Tryz.underlying25 hf with ⟨hcs, _⟩ | ⟨a, n, cap, m, fu, D, Pl, hcs, _, hl, hm, hmm, _, hi⟩
  · obtain rfl : c = .slice none 0 0 := by simpa using hcs
    exact ⟨none, 0, 0, [], [], rfl, rfl, rfl, Rd.nil _ _ _, fun i e z h => by simp at h⟩
  · obtain rfl : c = .slice (some a) n cap := by simpa using hcs
    have hnm : n ≤ m := by rw [hmm]; split <;> omega
    rw [hcr] at hi
    have hall : ∀ i, i < n → ∃ q : ExS × (List Int × List Int), (w.cell? (a.add (i * 2)) = some (.slice q.1.1.1 q.1.1.2.1 q.1.1.2.2) ∧ w.cell? (a.add (i * 2 + 1)) = some (.slice q.1.2.1 q.1.2.2.1 q.1.2.2.2)) ∧ ExAt w q.1 q.2 := by
      intro i him
      obtain ⟨cs', hc, ht⟩ := hi i (by omega)
      obtain ⟨_, hcl, hat⟩ := World.cells?_some hc
      obtain ⟨c0, c1, rfl⟩ := list2 hcl
      obtain ⟨m2, hm2⟩ := field_at Tryz.underlying162 ht
      obtain ⟨y5, e5⟩ := hm2 0 _ rfl
      obtain ⟨y6, e6⟩ := hm2 1 _ rfl
      replace e5 : DataW.trod enc Tryz.prog w base spare held m2 26 (List.take (Tryz.prog.cellsOf 26) (List.drop 0 [c0, c1])) = some y5 := e5
      replace e6 : DataW.trod enc Tryz.prog w base spare held m2 26 (List.take (Tryz.prog.cellsOf 26) (List.drop 1 [c0, c1])) = some y6 := e6
      rw [hc3] at e5 e6
      obtain ⟨A1, n1, k1, l1, rfl, a1, a2, a3, a4, _⟩ := nums_of Tryz.underlying26 Tryz.underlying2 (by kernel_rfl) e5
      obtain ⟨A2, n2, k2, l2, rfl, b1, b2, b3, b4, _⟩ := nums_of Tryz.underlying26 Tryz.underlying2 (by kernel_rfl) e6
      have h0 := hat 0 (by omega)
      have h1 := hat 1 (by omega)
      rw [Go.Deep.add_add] at h0 h1
      exact ⟨(((A1, n1, k1), (A2, n2, k2)), (l1, l2)), ⟨h0, h1⟩, ⟨a2, a3, fun z hz => bounds_i64 (a4 z hz), a1.2.1, b2, b3, fun z hz => bounds_i64 (b4 z hz), b1.2.1⟩⟩
    obtain ⟨f, hf'⟩ := Go.Deep.choose_lt hall
    refine ⟨some a, n, cap, (List.range n).map (fun i => (f i).1), (List.range n).map (fun i => (f i).2), rfl, by simp, by simp, ⟨by rw [exV_length]; simp, fun hn => ?_⟩, fun i e z h1 h2 => ?_⟩
    · obtain ⟨b, o, sp⟩ := a
      have hs : sp = none := by
        have := (hf' 0 hn).1.1
        have := World.cell?_spot this
        simpa [Addr.add] using this
      subst hs
      refine ⟨b, o, rfl, ?_, fun j u hu => ?_⟩
      · have := World.block_lt_of_cell? w _ (hf' 0 hn).1.1
        rw [addr_addq] at this
        exact this
      · have hlen : (exV ((List.range n).map fun i => (f i).1)).length = n * 2 := by rw [exV_length]; simp
        have hj : j < n * 2 := by
          have := (List.getElem?_eq_some_iff.1 hu).1
          omega
        have hk : ((List.range n).map fun i => (f i).1)[j / 2]? = some (f (j / 2)).1 := by
          have h2 : j / 2 < n := by omega
          simp [h2]
        obtain ⟨g1, g2⟩ := exV_get _ (j / 2) _ hk
        have hfk := (hf' (j / 2) (by omega)).1
        rw [addr_addq, addr_addq] at hfk
        rcases Nat.mod_two_eq_zero_or_one j with hp | hp
        · rw [show j / 2 * 2 = j by omega] at g1 hfk
          rw [hu] at g1
          injection g1 with g1
          rw [hfk.1, g1]
        · rw [show j / 2 * 2 + 1 = j by omega] at g2 hfk
          rw [hu] at g2
          injection g2 with g2
          rw [hfk.2, g2]
    · have hin : i < n := by
        have := (List.getElem?_eq_some_iff.1 h1).1
        simpa using this
      simp [hin] at h1 h2
      subst h1 h2
      exact (hf' i hin).2
set_option maxRecDepth 100000 in
theorem shape_input (hv : Value.okWide Tryz.prog w r b0 29 v) (h : DataW.Trod enc Tryz.prog w base spare held 29 v d p) :
    ∃ (A : Option Addr) (n cap : Nat) (l : List Int) (c : Cfg) (S : Option Addr) (m cS : Nat) (es : List ExS) (zs : List (List Int × List Int)) (AP : Option Addr) (P cP : Nat) (P0 : List Int) (AD : Option Addr) (D cD : Nat) (L : List Int),
      v = inV A n cap c S m cS AP P cP AD D cD ∧ n ≤ cap ∧ l.length = n ∧ Rd w 1 A n (iv l) ∧ (In1 c.ra ∧ In1 c.mo) ∧ es.length = m ∧ zs.length = m ∧ Rd w 2 S m (exV es) ∧ (∀ (i : Nat) (e : ExS) (z : List Int × List Int), es[i]? = some e → zs[i]? = some z → ExAt w e z) ∧
      P0.length = P ∧ Rd w 1 AP P (iv P0) ∧ AllIn P0 ∧ L.length = D ∧ Rd w 1 AD D (uv L) ∧ InU L := by
  obtain ⟨⟨l⟩, rfl, hs⟩ := okWide_struct Tryz.underlying29 hv
  have hc : Tryz.prog.cellsOf 29 = 15 := by kernel_rfl
  have hc3 : Tryz.prog.cellsOf 3 = 1 := by kernel_rfl
  have hc6 : Tryz.prog.cellsOf 2 = 1 := by kernel_rfl
  have hcs : Tryz.prog.cellsOf 22 = 1 := by kernel_rfl
  have hcx : Tryz.prog.cellsOf 25 = 1 := by kernel_rfl
  have hcp : Tryz.prog.cellsOf 26 = 1 := by kernel_rfl
  have hcu : Tryz.prog.cellsOf 27 = 1 := by kernel_rfl
  have hcr : Tryz.prog.cellsOf 24 = 12 := by kernel_rfl
  rw [hc] at hs
  obtain ⟨c0, c1, c2, c3, c4, c5, c6, c7, c8, c9, c10, c11, c12, c13, c14, rfl⟩ := list15 (by simpa using hs)
  obtain ⟨fuel, hf⟩ := h
  obtain ⟨m, hm⟩ := field_at Tryz.underlying29 hf
  obtain ⟨y0, e0⟩ := hm 0 _ rfl
  obtain ⟨y1, e1⟩ := hm 1 _ rfl
  obtain ⟨y2, e2⟩ := hm 2 _ rfl
  obtain ⟨y3, e3⟩ := hm 3 _ rfl
  simp only [Value.cells, hcx, hcp, hcu, hcr, List.drop_zero, List.take_succ_cons, List.take_zero, List.drop_succ_cons] at e0 e1 e2 e3
  obtain ⟨m2, hm2⟩ := field_at Tryz.underlying24 e0
  obtain ⟨z0, f0⟩ := hm2 0 _ rfl
  obtain ⟨z1, f1⟩ := hm2 1 _ rfl
  obtain ⟨z2, f2⟩ := hm2 2 _ rfl
  obtain ⟨z3, f3⟩ := hm2 3 _ rfl
  obtain ⟨z4, f4⟩ := hm2 4 _ rfl
  obtain ⟨z5, f5⟩ := hm2 5 _ rfl
  obtain ⟨z6, f6⟩ := hm2 6 _ rfl
  obtain ⟨z7, f7⟩ := hm2 7 _ rfl
  obtain ⟨z8, f8⟩ := hm2 8 _ rfl
  obtain ⟨z9, f9⟩ := hm2 9 _ rfl
  obtain ⟨z10, f10⟩ := hm2 10 _ rfl
  obtain ⟨z11, f11⟩ := hm2 11 _ rfl
  replace f0 : DataW.trod enc Tryz.prog w base spare held m2 22 (List.take (Tryz.prog.cellsOf 22) (List.drop 0 [c0, c1, c2, c3, c4, c5, c6, c7, c8, c9, c10, c11])) = some z0 := f0
  rw [hcs] at f0
  replace f1 : DataW.trod enc Tryz.prog w base spare held m2 3 (List.take (Tryz.prog.cellsOf 3) (List.drop 1 [c0, c1, c2, c3, c4, c5, c6, c7, c8, c9, c10, c11])) = some z1 := f1
  rw [hc3] at f1
  replace f2 : DataW.trod enc Tryz.prog w base spare held m2 2 (List.take (Tryz.prog.cellsOf 2) (List.drop 2 [c0, c1, c2, c3, c4, c5, c6, c7, c8, c9, c10, c11])) = some z2 := f2
  rw [hc6] at f2
  replace f3 : DataW.trod enc Tryz.prog w base spare held m2 2 (List.take (Tryz.prog.cellsOf 2) (List.drop 3 [c0, c1, c2, c3, c4, c5, c6, c7, c8, c9, c10, c11])) = some z3 := f3
  rw [hc6] at f3
  replace f4 : DataW.trod enc Tryz.prog w base spare held m2 3 (List.take (Tryz.prog.cellsOf 3) (List.drop 4 [c0, c1, c2, c3, c4, c5, c6, c7, c8, c9, c10, c11])) = some z4 := f4
  rw [hc3] at f4
  replace f5 : DataW.trod enc Tryz.prog w base spare held m2 3 (List.take (Tryz.prog.cellsOf 3) (List.drop 5 [c0, c1, c2, c3, c4, c5, c6, c7, c8, c9, c10, c11])) = some z5 := f5
  rw [hc3] at f5
  replace f6 : DataW.trod enc Tryz.prog w base spare held m2 3 (List.take (Tryz.prog.cellsOf 3) (List.drop 6 [c0, c1, c2, c3, c4, c5, c6, c7, c8, c9, c10, c11])) = some z6 := f6
  rw [hc3] at f6
  replace f7 : DataW.trod enc Tryz.prog w base spare held m2 3 (List.take (Tryz.prog.cellsOf 3) (List.drop 7 [c0, c1, c2, c3, c4, c5, c6, c7, c8, c9, c10, c11])) = some z7 := f7
  rw [hc3] at f7
  replace f8 : DataW.trod enc Tryz.prog w base spare held m2 3 (List.take (Tryz.prog.cellsOf 3) (List.drop 8 [c0, c1, c2, c3, c4, c5, c6, c7, c8, c9, c10, c11])) = some z8 := f8
  rw [hc3] at f8
  replace f9 : DataW.trod enc Tryz.prog w base spare held m2 3 (List.take (Tryz.prog.cellsOf 3) (List.drop 9 [c0, c1, c2, c3, c4, c5, c6, c7, c8, c9, c10, c11])) = some z9 := f9
  rw [hc3] at f9
  replace f10 : DataW.trod enc Tryz.prog w base spare held m2 3 (List.take (Tryz.prog.cellsOf 3) (List.drop 10 [c0, c1, c2, c3, c4, c5, c6, c7, c8, c9, c10, c11])) = some z10 := f10
  rw [hc3] at f10
  replace f11 : DataW.trod enc Tryz.prog w base spare held m2 3 (List.take (Tryz.prog.cellsOf 3) (List.drop 11 [c0, c1, c2, c3, c4, c5, c6, c7, c8, c9, c10, c11])) = some z11 := f11
  rw [hc3] at f11
  obtain ⟨n1, rfl, w1⟩ := int_of Tryz.underlying3 f1
  obtain ⟨n2, rfl, w2⟩ := int_of Tryz.underlying2 f2
  obtain ⟨n3, rfl, w3⟩ := int_of Tryz.underlying2 f3
  obtain ⟨n4, rfl, w4⟩ := int_of Tryz.underlying3 f4
  obtain ⟨n5, rfl, w5⟩ := int_of Tryz.underlying3 f5
  obtain ⟨n6, rfl, w6⟩ := int_of Tryz.underlying3 f6
  obtain ⟨n7, rfl, w7⟩ := int_of Tryz.underlying3 f7
  obtain ⟨n8, rfl, w8⟩ := int_of Tryz.underlying3 f8
  obtain ⟨n9, rfl, w9⟩ := int_of Tryz.underlying3 f9
  obtain ⟨n10, rfl, w10⟩ := int_of Tryz.underlying3 f10
  obtain ⟨n11, rfl, w11⟩ := int_of Tryz.underlying3 f11
  obtain ⟨A, N, cap, ls, rfl, a1, a2, a3, a4, _⟩ := nums_of Tryz.underlying22 Tryz.underlying3 (by kernel_rfl) f0
  obtain ⟨S, M, cS, es, zs, rfl, x1, x2, x3, x4⟩ := exs_of e1
  obtain ⟨AP, P, cP, P0, rfl, p1, p2, p3, p4, _⟩ := nums_of Tryz.underlying26 Tryz.underlying2 (by kernel_rfl) e2
  obtain ⟨AD, D, cD, L, rfl, d1, d2, d3, d4, _⟩ := nums_of Tryz.underlying27 Tryz.underlying135 (by kernel_rfl) e3
  exact ⟨A, N, cap, ls, ⟨n1, n2, n3, n4, n5, n6, n7, n8, n9, n10, n11⟩, S, M, cS, es, zs, AP, P, cP, P0, AD, D, cD, L, rfl, a1.2.1, a2, a3, ⟨bounds_i64 w2, bounds_i64 w3⟩, x1, x2, x3, x4, p2, p3, fun z hz => bounds_i64 (p4 z hz), d2, d3, inU_wf d4⟩
end
end Go.Proofs.YtkmaeipoaoikpaaGreat
