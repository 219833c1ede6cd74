/-
  Lemmas and contracts (40): Stat, Small, SmRun.
-/
import Derived.WalkKit
import Derived.WalkSpells
import Derived.WalkLawsBesides
import Derived.Lib.Hide
import Derived.Deep.QuietTactic
import Derived.BigQuiet
import Derived.IntWalk
import Derived.Deep.RegionHeld3
import Derived.Maps.AppendAt
import Derived.StillTail
import Derived.OrdersHeld
import Derived.ProofKit
import Derived.OpenShut
import Derived.Deep.Slices
import Derived.Deep.Fields
import Derived.Test.YtkmaeipoaoikpaaGreatProg
import Derived.Laws.OwnMore
import Derived.Deep.Draws
import Derived.Laws.Rows
import Derived.Laws.EntriesVeiled
import Derived.RangeFuncNested
import Derived.RangeFuncBox
import Derived.RangeFuncLeaves
import Derived.Shelf.Abstract
import Derived.OwnWalkIn
import Derived.TacticsInMore
import Derived.LoopNIn
import Derived.LoopIn
import Derived.OrdersIn
import Derived.RangeFuncCalls
import Derived.Laws.Bits64
import Derived.Deep.DeepMust
import Derived.Deep.DeepCutAuto
import Derived.BigRegion
import Derived.Laws.BitsAllLaws
import Derived.Test.YtkmaeipoaoikpaaGreatShelf
import Derived.SizedLaws
import Derived.Deep.OwnRows
import Derived.Laws.CopyOwn
import Derived.RangeFuncFrom
import Derived.OwnWalk
import Derived.WalkMore
import Derived.Maps.Own
import Derived.Maps.Views
import Derived.Maps.Keyed
import Derived.Maps.OwnOps
import Derived.Maps.Ext
import Derived.Carry
import Derived.Lib.SliceRun
import Derived.ScopeJumps
import Derived.Test.YtkmaeipoaoikpaaGreatEA01
import Derived.Test.YtkmaeipoaoikpaaGreatEA02
import Derived.Test.YtkmaeipoaoikpaaGreatEA03
import Derived.Test.YtkmaeipoaoikpaaGreatEA04
import Derived.Test.YtkmaeipoaoikpaaGreatEA05
import Derived.Test.YtkmaeipoaoikpaaGreatEA06
import Derived.Test.YtkmaeipoaoikpaaGreatEA07
import Derived.Test.YtkmaeipoaoikpaaGreatEA08
import Derived.Test.YtkmaeipoaoikpaaGreatEA09
import Derived.Test.YtkmaeipoaoikpaaGreatEA10
import Derived.Test.YtkmaeipoaoikpaaGreatEA11
import Derived.Test.YtkmaeipoaoikpaaGreatEA12
import Derived.Test.YtkmaeipoaoikpaaGreatEA13
import Derived.Test.YtkmaeipoaoikpaaGreatEA14
import Derived.Test.YtkmaeipoaoikpaaGreatEA15
import Derived.Test.YtkmaeipoaoikpaaGreatEA16
import Derived.Test.YtkmaeipoaoikpaaGreatEA17
import Derived.Test.YtkmaeipoaoikpaaGreatEA18
import Derived.Test.YtkmaeipoaoikpaaGreatEA19
import Derived.Test.YtkmaeipoaoikpaaGreatEA20
import Derived.Test.YtkmaeipoaoikpaaGreatEA21
import Derived.Test.YtkmaeipoaoikpaaGreatEA22
import Derived.Test.YtkmaeipoaoikpaaGreatEA23
import Derived.Test.YtkmaeipoaoikpaaGreatEA24
import Derived.Test.YtkmaeipoaoikpaaGreatEA25
import Derived.Test.YtkmaeipoaoikpaaGreatEA26
import Derived.Test.YtkmaeipoaoikpaaGreatEA27
import Derived.Test.YtkmaeipoaoikpaaGreatEA28
import Derived.Test.YtkmaeipoaoikpaaGreatEA29
import Derived.Test.YtkmaeipoaoikpaaGreatEA30
import Derived.Test.YtkmaeipoaoikpaaGreatEA31
import Derived.Test.YtkmaeipoaoikpaaGreatEA32
import Derived.Test.YtkmaeipoaoikpaaGreatEA33
import Derived.Test.YtkmaeipoaoikpaaGreatEA34
import Derived.Test.YtkmaeipoaoikpaaGreatEA35
import Derived.Test.YtkmaeipoaoikpaaGreatEA36
import Derived.Test.YtkmaeipoaoikpaaGreatEA37
import Derived.Test.YtkmaeipoaoikpaaGreatEA38
import Derived.Test.YtkmaeipoaoikpaaGreatEA39
namespace Go.Proofs.YtkmaeipoaoikpaaGreat
set_option linter.unusedVariables false
set_option linter.unusedSimpArgs false
set_option maxRecDepth 100000
section
open Go.RowKit
variable {md : Region.Mode} {ops : Array Oper}
def rchB (md : Region.Mode) (ops : Array Oper) (M : List Nat) : Nat → Nat → Nat → Bool
  | 0, _, _ => false
  | n + 1, t, m => Region.waitsFor md ops t m || M.any (fun k => Region.waitsFor md ops t k && rchB md ops M n k m)
def topoB (md : Region.Mode) (ops : Array Oper) : List Nat → List Nat → Bool
  | _, [] => true
  | E, m :: M => (match ops[m]? with | some o => o.after.all (fun e => !Region.binds md e || E.contains e.on) | none => false) && topoB md ops (m :: E) M
theorem topoB_spec : ∀ (M E : List Nat) (listed : Array Bool), topoB md ops E M = true → (∀ e ∈ E, listed.getD e false = true) → (∃ m ∈ M, listed.getD m false = false) → ∃ m ∈ M, listed.getD m false = false ∧ ∃ o, ops[m]? = some o ∧ ∀ e ∈ o.after, Region.binds md e = true → listed.getD e.on false = true
  | [], _, _, _, _, h => by obtain ⟨m, hm, _⟩ := h; cases hm
  | m :: M, E, listed, hB, hE, h => by
    simp only [topoB, Bool.and_eq_true] at hB
    obtain ⟨h1, h2⟩ := hB
    cases hl : listed.getD m false with
    | false =>
      split at h1
      · rename_i o ho
        refine ⟨m, by simp, hl, o, ho, fun e he hb => ?_⟩
        rw [Array.all_eq_true_iff_forall_mem] at h1
        have := h1 e he
        rw [hb] at this
        simp only [Bool.not_true, Bool.false_or] at this
        exact hE _ (by simpa using this)
      · cases h1
    | true =>
      obtain ⟨m', hm', hl'⟩ := h
      have hm'' : m' ∈ M := by
        rcases List.mem_cons.1 hm' with e | e
        · subst e; rw [hl] at hl'; cases hl'
        · exact e
      obtain ⟨k, hk, h3⟩ := topoB_spec M (m :: E) listed h2 (fun e he => by
        rcases List.mem_cons.1 he with e1 | e1
        · subst e1; exact hl
        · exact hE e e1) ⟨m', hm'', hl'⟩
      exact ⟨k, by simp [hk], h3⟩
theorem rchB_spec {M : List Nat} {listed : Array Bool} (hc : ∀ j, j ∈ M → listed.getD j false = true → ∀ k, Region.waitsFor md ops j k = true → listed.getD k false = true) : ∀ (n t m : Nat), rchB md ops M n t m = true → (∀ k, Region.waitsFor md ops t k = true → listed.getD k false = true) → listed.getD m false = true
  | 0, _, _, h, _ => by cases h
  | n + 1, t, m, h, ht => by
    simp only [rchB, Bool.or_eq_true, List.any_eq_true, Bool.and_eq_true] at h
    rcases h with h | ⟨k, hk, h1, h2⟩
    · exact ht m h
    · exact rchB_spec hc n k m h2 (fun k' hk' => hc k hk (ht k h1) k' hk')
theorem filter_drop1 {p : Nat → Bool} {i : Nat} : ∀ (M : List Nat), M.Nodup → i ∈ M → p i = true → (M.filter p).length = (M.filter (fun m => p m && m != i)).length + 1
  | [], _, h, _ => by cases h
  | m :: M, hn, h, hp => by
    rw [List.nodup_cons] at hn
    by_cases e : m = i
    · subst e
      have : M.filter (fun k => p k && k != m) = M.filter p := by
        apply List.filter_congr
        intro k hk
        have : k ≠ m := fun e => hn.1 (by rw [← e]; exact hk)
        simp [this]
      simp [List.filter_cons, hp, this]
    · have hi : i ∈ M := by
        rcases List.mem_cons.1 h with h | h
        · exact absurd h.symm e
        · exact h
      have ih := filter_drop1 M hn.2 hi hp
      have e' : (m != i) = true := by simp [e]
      cases hm : p m <;> simp [List.filter_cons, hm, e', ih]
theorem listAll_size : ∀ (E : List Nat) (b : Array Bool), (listAll b E).size = b.size
  | [], b => rfl
  | e :: E, b => by show (listAll (b.setIfInBounds e true) E).size = _; rw [listAll_size]; simp
theorem listAll_getD : ∀ (E : List Nat) (b : Array Bool) (i : Nat), (listAll b E).getD i false = true ↔ (i < b.size ∧ i ∈ E) ∨ b.getD i false = true
  | [], b, i => by simp [listAll]
  | e :: E, b, i => by
    show (listAll (b.setIfInBounds e true) E).getD i false = true ↔ _
    rw [listAll_getD]
    by_cases h : e = i
    · subst h
      by_cases hlt : e < b.size
      · simp [hlt]
      · simp [hlt]
    · rw [getD_set_ne false h]
      have : ¬ i = e := fun x => h x.symm
      simp [this]
def statB (md : Region.Mode) (ops : Array Oper) (E M T : List Nat) : Bool :=
  topoB md ops E M && (List.range ops.size).all (fun i => E.contains i || M.contains i || T.contains i) && T.all (fun t => M.all fun m => rchB md ops M M.length t m) && decide M.Nodup && seqT md ops T (listAll (listAll (Array.replicate ops.size false) E) M)
theorem postsB_stat {E M T : List Nat} (hB : statB md ops E M T = true) (hM : ∀ m ∈ M, m < ops.size) (hE : ∀ e ∈ E, e < ops.size) (hT : ∀ m ∈ M, m ∉ E) : ∀ (n : Nat) (listed : Array Bool), listed.size = ops.size → (∀ e ∈ E, listed.getD e false = true) → (∀ i, listed.getD i false = true → i ∈ E ∨ i ∈ M) →
    (∀ j, j ∈ M → listed.getD j false = true → ∀ k, Region.waitsFor md ops j k = true → listed.getD k false = true) → (M.filter (fun m => !listed.getD m false)).length = n → postsB md ops M T n listed = true := by
  simp only [statB, Bool.and_eq_true, List.all_eq_true, decide_eq_true_eq] at hB
  obtain ⟨⟨⟨⟨htopo, hcov⟩, hreach⟩, hnd⟩, hseq⟩ := hB
  intro n
  induction n with
  | zero =>
    intro listed hsz h1 h2 h3 h4
    have hall : ∀ m ∈ M, listed.getD m false = true := by
      intro m hm
      cases hl : listed.getD m false with
      | true => rfl
      | false =>
        have : m ∈ M.filter (fun m => !listed.getD m false) := List.mem_filter.2 ⟨hm, by rw [hl]; rfl⟩
        rw [List.length_eq_zero_iff.1 h4] at this
        cases this
    have he : listed = listAll (listAll (Array.replicate ops.size false) E) M := by
      apply Array.ext
      · rw [listAll_size, listAll_size, hsz]; simp
      · intro i hi1 hi2
        have a1 : listed.getD i false = listed[i] := by simp [hi1]
        have a2 : (listAll (listAll (Array.replicate ops.size false) E) M).getD i false = (listAll (listAll (Array.replicate ops.size false) E) M)[i] := by simp [hi2]
        rw [← a1, ← a2]
        rw [Bool.eq_iff_iff, listAll_getD, listAll_getD, listAll_size, getD_replicate_false]
        constructor
        · intro h
          rcases h2 i h with h | h
          · exact .inr (.inl ⟨by simpa using hE i h, h⟩)
          · exact .inl ⟨by simpa using hM i h, h⟩
        · rintro (⟨_, h⟩ | ⟨_, h⟩ | h)
          · exact hall i h
          · exact h1 i h
          · cases h
    simp only [postsB, Bool.and_eq_true, List.all_eq_true]
    exact ⟨hall, by rw [he]; exact hseq⟩
  | succ n ih =>
    intro listed hsz h1 h2 h3 h4
    have hun : ∃ m ∈ M, listed.getD m false = false := by
      cases hf : M.filter (fun m => !listed.getD m false) with
      | nil => rw [hf] at h4; cases h4
      | cons m l =>
        have : m ∈ M.filter (fun m => !listed.getD m false) := by rw [hf]; simp
        rw [List.mem_filter] at this
        exact ⟨m, this.1, by simpa using this.2⟩
    have hg : ∀ i, i < ops.size → listed.getD i false = false → listed.getD i true = false := by
      intro i hi h
      have hi' : i < listed.size := by rw [hsz]; exact hi
      simpa [hi'] using h
    obtain ⟨m, hm, hml, o, ho, hall⟩ := topoB_spec M E listed htopo h1 hun
    have hr : m ∈ Region.ready md ops listed := mem_ready.2 ⟨hg m (hM m hm) hml, o, ho, hall⟩
    simp only [postsB, Bool.and_eq_true, List.all_eq_true, Bool.not_eq_true']
    refine ⟨?_, fun i hi => ?_⟩
    · cases hrd : Region.ready md ops listed with
      | nil => rw [hrd] at hr; cases hr
      | cons _ _ => rfl
    · obtain ⟨hil, oi, hoi, hia⟩ := mem_ready.1 hi
      have his : i < ops.size := (Array.getElem?_eq_some_iff.1 hoi).1
      have hil' : listed.getD i false = false := by
        have hi' : i < listed.size := by rw [hsz]; exact his
        simpa [hi'] using hil
      have hwait : ∀ k, Region.waitsFor md ops i k = true → listed.getD k false = true := by
        intro k hk
        obtain ⟨oj, hoj, e, he, hb, hon⟩ := Region.waitsFor_spec hk
        rw [hoi] at hoj
        injection hoj with hoj
        subst hoj
        rw [← hon]
        exact hia e he hb
      have hiM : i ∈ M := by
        have hc := hcov i (by simpa using his)
        simp only [Bool.or_eq_true, List.contains_iff_mem] at hc
        rcases hc with (hc | hc) | hc
        · rw [h1 i hc] at hil'; cases hil'
        · exact hc
        · obtain ⟨m', hm', hl'⟩ := hun
          have := hreach i hc m' hm'
          have := rchB_spec h3 _ _ _ this hwait
          rw [this] at hl'
          cases hl'
      refine ⟨by simpa using hiM, ?_⟩
      refine ih _ (by simp [hsz]) (fun e he => ?_) (fun k hk => ?_) (fun j hj hlj k hk => ?_) ?_
      · exact getD_set_true (h1 e he)
      · by_cases hik : i = k
        · subst hik; exact .inr hiM
        · rw [getD_set_ne false hik] at hk; exact h2 k hk
      · by_cases hij : i = j
        · subst hij; exact getD_set_true (hwait k hk)
        · rw [getD_set_ne false hij] at hlj
          exact getD_set_true (h3 j hj hlj k hk)
      · have hd := filter_drop1 (p := fun m => !listed.getD m false) (i := i) M hnd hiM (by rw [hil']; rfl)
        rw [h4] at hd
        have he : M.filter (fun m => !(listed.setIfInBounds i true).getD m false) = M.filter (fun m => (!listed.getD m false) && m != i) := by
          apply List.filter_congr
          intro k hk
          by_cases hik : i = k
          · subst hik
            have hi' : i < listed.size := by rw [hsz]; exact his
            simp [hi']
          · rw [getD_set_ne false hik]
            have : ¬ k = i := fun x => hik x.symm
            simp [this]
        rw [he]
        omega
end
section
open Go.RowKit
theorem rd_new (w : World) (t : TypeId) (vs : Array Value) (size n : Nat) (hl : vs.toList.length = n * size) : Rd (w.alloc (.cells vs t)) size (some ⟨w.heap.size, 0, none⟩) n vs.toList := by
  refine ⟨hl, fun hn => ⟨_, 0, rfl, by simp, fun j u hu => ?_⟩⟩
  rw [Nat.zero_add, (Blk.new w t vs).cell j]
  simpa using hu
def smCfg : Cfg := { sh := 1, ra := 1, mo := 1, wk := 2, ba := 2, mi := 1, st := 1, bu := 2, ch := 1, wi := 1, ca := 1 }
def smF : Nat → List Int × List Int := fun i => [([2], [6]), ([4], [2])].getD (i - 1) ([], [])
def smI (A : Option Addr) (cap : Nat) (S : Option Addr) (cS : Nat) (es : List StS) (AP : Option Addr) (cP : Nat) (AD : Option Addr) (cD : Nat) : InC :=
  { A := A, n := 2, cap := cap, l := [1, 1], c := smCfg, S := S, m := 2, cS := cS, es := es, N := 1, M := 1, f := smF, AP := AP, P := 2, cP := cP, P0 := [4, 2], AD := AD, D := 2, cD := cD, L := [1, 0] }
theorem rd_new' {W : World} {g : Nat} {t : TypeId} {vs : Array Value} {size n : Nat} {xs : List Value} (h : W.heap.size = g) (hx : vs.toList = xs) (hl : xs.length = n * size) : Rd (W.alloc (.cells vs t)) size (some ⟨g, 0, none⟩) n xs := by
  subst h hx
  exact rd_new W t vs size n hl
def SmallRet (w : World) (e : Ending) (w' : World) : Prop := ∃ A cap S cS es AP cP AD cD, e = .returned (inV A 2 cap smCfg S 2 cS AP 2 cP AD 2 cD) ∧ es.length = 2 ∧ InAt w' (smI A cap S cS es AP cP AD cD) ∧ Below w.heap.size w w'
set_option maxHeartbeats 4000000 in
theorem small_any (w : World) : Calls Tryz.prog 31 #[] w (SmallRet w) := by
  go_enter Tryz.func31, Tryz.ntmps31
  go_wp2_with fail
  (try simp only [Exit.inBlock, Exit.then])
  refine bodyPost_ret (results_cell_row rfl _ _ w.heap.size _ _ (0, 0) _ rfl (Blk.alloc (Blk.alloc (Blk.alloc (Blk.alloc (Blk.alloc (Blk.alloc (Blk.alloc (Blk.alloc (Blk.alloc (Blk.new _ _ _) _) _) _) _) _) _) _) _) _) Tryz.underlying29 rfl (by kernel_rfl)) rfl ?_
  refine ⟨some ⟨w.heap.size + 1, 0, none⟩, 2, some ⟨w.heap.size + 1 + 1 + 1 + 1 + 1 + 1 + 1, 0, none⟩, 2, [(some ⟨w.heap.size + 1 + 1 + 1, 0, none⟩, 1, some ⟨w.heap.size + 1 + 1 + 1 + 1, 0, none⟩, 1), (some ⟨w.heap.size + 1 + 1 + 1 + 1 + 1, 0, none⟩, 1, some ⟨w.heap.size + 1 + 1 + 1 + 1 + 1 + 1, 0, none⟩, 1)], some ⟨w.heap.size + 1 + 1 + 1 + 1 + 1 + 1 + 1 + 1, 0, none⟩, 2, some ⟨w.heap.size + 1 + 1 + 1 + 1 + 1 + 1 + 1 + 1 + 1, 0, none⟩, 2, rfl, rfl, ⟨rfl, ?_, (by decide : (2 : Nat) ≤ 2), rfl, ?_, ?_, rfl, ?_, rfl, ?_⟩, ?_⟩
  · repeat' first | (refine rd_new' ?_ rfl rfl; (simp; done)) | refine Rd.alloc ?_ _
  · repeat' first | (refine rd_new' ?_ rfl rfl; (simp; done)) | refine Rd.alloc ?_ _
  · intro i s hs
    match i, hs with
    | 0, hs =>
      injection hs with hs
      subst hs
      refine ⟨?_, ?_⟩ <;> repeat' first | (refine rd_new' ?_ rfl rfl; (simp; done)) | refine Rd.alloc ?_ _
    | 1, hs =>
      injection hs with hs
      subst hs
      refine ⟨?_, ?_⟩ <;> repeat' first | (refine rd_new' ?_ rfl rfl; (simp; done)) | refine Rd.alloc ?_ _
    | i + 2, hs => simp [smI] at hs
  · repeat' first | (refine rd_new' ?_ rfl rfl; (simp; done)) | refine Rd.alloc ?_ _
  · repeat' first | (refine rd_new' ?_ rfl rfl; (simp; done)) | refine Rd.alloc ?_ _
  · repeat' first | exact Below.refl _ _ | refine Below.alloc ?_ (by simp <;> omega) _
theorem smI_ok (A : Option Addr) (cap : Nat) (S : Option Addr) (cS : Nat) (es : List StS) (AP : Option Addr) (cP : Nat) (AD : Option Addr) (cD : Nat) (h : es.length = 2) : (smI A cap S cS es AP cP AD cD).Ok := by
  obtain ⟨⟨A1, c1, B1, d1⟩, ⟨A2, c2, B2, d2⟩, rfl⟩ : ∃ a b, es = [a, b] := by
    match es, h with
    | [a, b], _ => exact ⟨a, b, rfl⟩
  refine ⟨by kernel_rfl, rfl, rfl, rfl, by kernel_rfl, by kernel_rfl, ?_, ?_, (by decide : (2 : Nat) ≤ 60), (by decide : (1 : Int) ≤ 12), (by decide : (2 : Nat) ≤ 60), (by decide : (2 : Int) ≤ 8), (by decide : (1 : Int) ≤ 20), (by decide : (2 : Nat) ≤ 4000), ?_, ?_, (by decide : In1 1), (by decide : In1 1)⟩
  · intro i hi
    match i, hi with
    | 0, _ => exact ⟨rfl, rfl⟩
    | 1, _ => exact ⟨rfl, rfl⟩
    | i + 2, hi => exact absurd hi (by show ¬ i + 2 < 2; omega)
  · intro i hi
    match i, hi with
    | 0, _ => intro x hx; simp [smI, smF] at hx; subst hx; decide
    | 1, _ => intro x hx; simp [smI, smF] at hx; subst hx; decide
    | i + 2, hi => exact absurd hi (by show ¬ i + 2 < 2; omega)
  · intro x hx
    simp [smI] at hx
    rcases hx with rfl | rfl <;> decide
  · intro x hx
    simp [smI] at hx
    rcases hx with rfl | rfl <;> decide
end
section
open Go.RowKit
def sm0 : InC := smI none 0 none 0 [] none 0 none 0
def smIt0 : List RItem := [((1, (0, 0)), ((false, false), ((0, (0, (0, (0, 0)))), (0, 0)))), ((2, (0, 0)), ((false, false), ((0, (0, (0, (0, 0)))), (0, 0)))), ((3, (0, 0)), ((true, false), ((0, (0, (0, (0, 0)))), (0, 1)))), ((4, (0, 0)), ((false, true), ((0, (0, (0, (0, 0)))), (1, 2)))), ((3, (0, 0)), ((true, false), ((0, (0, (1, (0, 0)))), (1, 2)))), ((4, (0, 0)), ((false, false), ((0, (0, (1, (0, 0)))), (0, 1)))), ((5, (0, 0)), ((false, false), ((0, (0, (0, (0, 0)))), (0, 0)))), ((6, (0, 0)), ((false, false), ((0, (0, (0, (0, 0)))), (0, 0))))]
def smIt1 : List RItem := [((1, (0, 0)), ((false, false), ((0, (0, (0, (0, 0)))), (0, 0)))), ((2, (0, 0)), ((false, false), ((0, (0, (0, (0, 0)))), (0, 0)))), ((3, (0, 0)), ((true, false), ((0, (0, (0, (0, 0)))), (1, 2)))), ((4, (0, 0)), ((false, true), ((0, (0, (0, (0, 0)))), (0, 1)))), ((3, (0, 0)), ((true, false), ((0, (0, (1, (0, 0)))), (0, 1)))), ((4, (0, 0)), ((false, false), ((0, (0, (1, (0, 0)))), (1, 2)))), ((5, (0, 0)), ((false, false), ((0, (0, (0, (0, 0)))), (0, 0)))), ((6, (0, 0)), ((false, false), ((0, (0, (0, (0, 0)))), (0, 0))))]
def smW : Nat → WS
  | 0 => ⟨[⟨[4, 2], [0, 0], [0, 0], [([4, 2], [0, 0])], smIt0, 0, 0, []⟩, ⟨[4, 2], [0, 0], [0, 0], [([4, 2], [0, 0])], smIt1, 0, 0, []⟩], [⟨0, 0, []⟩, ⟨0, 0, []⟩], 0⟩
  | 1 => ⟨[⟨[4, 2], [0, 0], [0, 0], [([4, 2], [0, 0])], smIt0, 1, 1, []⟩, ⟨[4, 2], [0, 0], [0, 0], [([4, 2], [0, 0])], smIt1, 0, 0, []⟩], [⟨0, 0, []⟩, ⟨0, 0, []⟩], 1⟩
  | 2 => ⟨[⟨[4, 2], [0, 0], [0, 0], [([4, 2], [0, 0])], smIt0, 1, 1, []⟩, ⟨[4, 2], [0, 0], [16, 8], [([4, 2], [0, 0])], smIt1, 1, 1, []⟩], [⟨0, 0, []⟩, ⟨0, 0, []⟩], 2⟩
  | 3 => ⟨[⟨[4, 2], [0, 0], [0, 0], [([4, 2], [0, 0])], smIt0, 2, 2, [0]⟩, ⟨[4, 2], [0, 0], [16, 8], [([4, 2], [0, 0])], smIt1, 1, 1, []⟩], [⟨0, 0, []⟩, ⟨0, 0, []⟩], 3⟩
  | 4 => ⟨[⟨[4, 2], [0, 0], [0, 0], [([4, 2], [0, 0])], smIt0, 2, 2, [0]⟩, ⟨[4, 2], [0, 0], [16, 8], [([4, 2], [0, 0])], smIt1, 2, 2, [0]⟩], [⟨0, 0, []⟩, ⟨0, 0, []⟩], 4⟩
  | 5 => ⟨[⟨[4, 2], [0, 0], [0, 0], [([4, 2], [0, 0])], smIt0, 3, 3, [0]⟩, ⟨[4, 2], [0, 0], [16, 8], [([4, 2], [0, 0])], smIt1, 2, 2, [0]⟩], [⟨1, 0, [((0, (0, (0, (0, 0)))), [0])]⟩, ⟨0, 0, []⟩], 5⟩
  | 6 => ⟨[⟨[4, 2], [0, 0], [0, 0], [([4, 2], [0, 0])], smIt0, 3, 3, [0]⟩, ⟨[4, 2], [0, 0], [16, 8], [([4, 2], [0, 0])], smIt1, 3, 3, [0]⟩], [⟨1, 0, [((0, (0, (0, (0, 0)))), [0])]⟩, ⟨1, 0, [((0, (0, (0, (0, 0)))), [8])]⟩], 6⟩
  | 7 => ⟨[⟨[4, 2], [0, 0], [0, 8], [([4, 2], [0, 0])], smIt0, 4, 4, [0]⟩, ⟨[4, 2], [0, 0], [16, 8], [([4, 2], [0, 0])], smIt1, 3, 3, [0]⟩], [⟨1, 0, [((0, (0, (0, (0, 0)))), [0])]⟩, ⟨1, 1, []⟩], 7⟩
  | 8 => ⟨[⟨[4, 2], [0, 0], [0, 8], [([4, 2], [0, 0])], smIt0, 4, 4, [0]⟩, ⟨[4, 2], [0, 0], [16, 8], [([4, 2], [0, 0])], smIt1, 4, 4, [0]⟩], [⟨1, 1, []⟩, ⟨1, 1, []⟩], 8⟩
  | 9 => ⟨[⟨[4, 2], [0, 0], [0, 8], [([4, 2], [0, 0])], smIt0, 5, 5, [0]⟩, ⟨[4, 2], [0, 0], [16, 8], [([4, 2], [0, 0])], smIt1, 4, 4, [0]⟩], [⟨2, 1, [((0, (0, (1, (0, 0)))), [8])]⟩, ⟨1, 1, []⟩], 9⟩
  | 10 => ⟨[⟨[4, 2], [0, 0], [0, 8], [([4, 2], [0, 0])], smIt0, 5, 5, [0]⟩, ⟨[4, 2], [0, 0], [16, 8], [([4, 2], [0, 0])], smIt1, 5, 5, [0]⟩], [⟨2, 1, [((0, (0, (1, (0, 0)))), [8])]⟩, ⟨2, 1, [((0, (0, (1, (0, 0)))), [16])]⟩], 10⟩
  | 11 => ⟨[⟨[4, 2], [0, 0], [16, 8], [([4, 2], [0, 0])], smIt0, 6, 6, [0]⟩, ⟨[4, 2], [0, 0], [16, 8], [([4, 2], [0, 0])], smIt1, 5, 5, [0]⟩], [⟨2, 1, [((0, (0, (1, (0, 0)))), [8])]⟩, ⟨2, 2, []⟩], 11⟩
  | 12 => ⟨[⟨[4, 2], [0, 0], [16, 8], [([4, 2], [0, 0])], smIt0, 6, 6, [0]⟩, ⟨[4, 2], [0, 0], [16, 8], [([4, 2], [0, 0])], smIt1, 6, 6, [0]⟩], [⟨2, 2, []⟩, ⟨2, 2, []⟩], 12⟩
  | 13 => ⟨[⟨[-4, -2], [16, 8], [16, 8], [([4, 2], [0, 0])], smIt0, 7, 7, []⟩, ⟨[4, 2], [0, 0], [16, 8], [([4, 2], [0, 0])], smIt1, 6, 6, [0]⟩], [⟨2, 2, []⟩, ⟨2, 2, []⟩], 13⟩
  | 14 => ⟨[⟨[-4, -2], [16, 8], [16, 8], [([4, 2], [0, 0])], smIt0, 7, 7, []⟩, ⟨[-4, -2], [16, 8], [16, 8], [([4, 2], [0, 0])], smIt1, 7, 7, []⟩], [⟨2, 2, []⟩, ⟨2, 2, []⟩], 14⟩
  | 15 => ⟨[⟨[-4, -2], [16, 8], [0, 0], [([4, 2], [0, 0]), ([-4, -2], [16, 8])], [], 0, 8, []⟩, ⟨[-4, -2], [16, 8], [16, 8], [([4, 2], [0, 0])], smIt1, 7, 7, []⟩], [⟨2, 2, []⟩, ⟨2, 2, []⟩], 15⟩
  | _ => ⟨[⟨[-4, -2], [16, 8], [0, 0], [([4, 2], [0, 0]), ([-4, -2], [16, 8])], [], 0, 8, []⟩, ⟨[-4, -2], [16, 8], [0, 0], [([4, 2], [0, 0]), ([-4, -2], [16, 8])], [], 0, 8, []⟩], [⟨2, 2, []⟩, ⟨2, 2, []⟩], 16⟩
theorem stepW_own {I : InC} {n x : Nat} {s : WS} {m : MS} {it : RItem} (hm : s.mss[x]? = some m) (hit : m.its[m.nx]? = some it) (h3 : it.1.1 ≠ 3) (h4 : it.1.1 ≠ 4) : stepW I n x s = ⟨s.mss.set x (nextMS (I.mc x) (workMS (I.mc x) m it) it.1.2.1), s.lss, s.cnt + 1⟩ := by
  unfold stepW
  simp only [hm, hit, if_neg h3, if_neg h4]
theorem workMS_1 {K : MC} {s : MS} {x : RItem} {l g : List Int} (h : x.1.1 = 1) (hm : micL K x.1.2.1 x.1.2.2 = l) (hg : accG K s.P s.G l = g) : workMS K s x = { s with G := g } := by
  unfold workMS
  rw [if_pos h, hm, hg]
theorem workMS_5 {K : MC} {s : MS} {x : RItem} {lo hi : Int} {e k : Nat} {g P M : List Int} (h : x.1.1 = 5) (hb : K.pc.bks[x.1.2.2.toNat]? = some (lo, hi)) (he : lo.toNat = e) (hk : (hi - lo).toNat = k) (hp : pcL s.G e k = g) (h1 : applyP K.c.ra K.c.mo K.c.sh s.P s.M g e k = P) (h2 : applyM K.c.mo K.c.sh s.M g e k = M) : workMS K s x = { s with P := P, M := M, opn := dropB s.opn x.1.2.2 } := by
  unfold workMS
  rw [if_neg (by rw [h]; decide), if_neg (by rw [h]; decide), if_pos h]
  simp only [hb, he, hk, hp, h1, h2]
theorem smM0 : micL (InC.mc sm0 0) 0 0 = [0] := by kernel_rfl
theorem smM1 : micL (InC.mc sm0 1) 0 0 = [1] := by kernel_rfl
theorem smA0 : accG (InC.mc sm0 0) [4, 2] [0, 0] [0] = [0, 0] := by kernel_rfl
theorem smA1 : accG (InC.mc sm0 1) [4, 2] [0, 0] [1] = [16, 8] := by kernel_rfl
theorem smPc (x : Nat) : (InC.mc sm0 x).pc.bks[(0 : Nat)]? = some (0, 2) := by kernel_rfl
theorem smPL : pcL [16, 8] 0 2 = [16, 8] := by kernel_rfl
theorem smU1 : updM 1 1 0 16 = 16 := by kernel_rfl
theorem smU2 : updM 1 1 0 8 = 8 := by kernel_rfl
theorem smU3 : updP 1 1 4 16 = -4 := by kernel_rfl
theorem smU4 : updP 1 1 2 8 = -2 := by kernel_rfl
theorem smAP : applyP 1 1 1 [4, 2] [0, 0] [16, 8] 0 2 = [-4, -2] := by
  simp [applyP, List.mapIdx_cons, smU1, smU2, smU3, smU4]
theorem smAM : applyM 1 1 [0, 0] [16, 8] 0 2 = [16, 8] := by
  simp [applyM, List.mapIdx_cons, smU1, smU2]
theorem smW_start0 : startW sm0 2 = smW 0 := by kernel_rfl
theorem smW_s0 : stepW sm0 2 0 (smW 0) = smW 1 := by
  refine (stepW_own (m := ⟨[4, 2], [0, 0], [0, 0], [([4, 2], [0, 0])], smIt0, 0, 0, []⟩) (it := ((1, (0, 0)), ((false, false), ((0, (0, (0, (0, 0)))), (0, 0))))) rfl rfl (by decide) (by decide)).trans ?_
  rw [workMS_1 (K := InC.mc sm0 0) (s := ⟨[4, 2], [0, 0], [0, 0], [([4, 2], [0, 0])], smIt0, 0, 0, []⟩) (x := ((1, (0, 0)), ((false, false), ((0, (0, (0, (0, 0)))), (0, 0))))) rfl (smM0) (smA0)]
  kernel_rfl
theorem smW_p0 : pickB sm0 2 0 (smW 0) = true := by kernel_rfl
theorem smW_s1 : stepW sm0 2 1 (smW 1) = smW 2 := by
  refine (stepW_own (m := ⟨[4, 2], [0, 0], [0, 0], [([4, 2], [0, 0])], smIt1, 0, 0, []⟩) (it := ((1, (0, 0)), ((false, false), ((0, (0, (0, (0, 0)))), (0, 0))))) rfl rfl (by decide) (by decide)).trans ?_
  rw [workMS_1 (K := InC.mc sm0 1) (s := ⟨[4, 2], [0, 0], [0, 0], [([4, 2], [0, 0])], smIt1, 0, 0, []⟩) (x := ((1, (0, 0)), ((false, false), ((0, (0, (0, (0, 0)))), (0, 0))))) rfl (smM1) (smA1)]
  kernel_rfl
theorem smW_p1 : pickB sm0 2 1 (smW 1) = true := by kernel_rfl
theorem smW_s2 : stepW sm0 2 0 (smW 2) = smW 3 := by kernel_rfl
theorem smW_p2 : pickB sm0 2 0 (smW 2) = true := by kernel_rfl
theorem smW_s3 : stepW sm0 2 1 (smW 3) = smW 4 := by kernel_rfl
theorem smW_p3 : pickB sm0 2 1 (smW 3) = true := by kernel_rfl
theorem smW_s4 : stepW sm0 2 0 (smW 4) = smW 5 := by kernel_rfl
theorem smW_p4 : pickB sm0 2 0 (smW 4) = true := by kernel_rfl
theorem smW_s5 : stepW sm0 2 1 (smW 5) = smW 6 := by kernel_rfl
theorem smW_p5 : pickB sm0 2 1 (smW 5) = true := by kernel_rfl
theorem smW_s6 : stepW sm0 2 0 (smW 6) = smW 7 := by kernel_rfl
theorem smW_p6 : pickB sm0 2 0 (smW 6) = true := by kernel_rfl
theorem smW_s7 : stepW sm0 2 1 (smW 7) = smW 8 := by kernel_rfl
theorem smW_p7 : pickB sm0 2 1 (smW 7) = true := by kernel_rfl
theorem smW_s8 : stepW sm0 2 0 (smW 8) = smW 9 := by kernel_rfl
theorem smW_p8 : pickB sm0 2 0 (smW 8) = true := by kernel_rfl
theorem smW_s9 : stepW sm0 2 1 (smW 9) = smW 10 := by kernel_rfl
theorem smW_p9 : pickB sm0 2 1 (smW 9) = true := by kernel_rfl
theorem smW_s10 : stepW sm0 2 0 (smW 10) = smW 11 := by kernel_rfl
theorem smW_p10 : pickB sm0 2 0 (smW 10) = true := by kernel_rfl
theorem smW_s11 : stepW sm0 2 1 (smW 11) = smW 12 := by kernel_rfl
theorem smW_p11 : pickB sm0 2 1 (smW 11) = true := by kernel_rfl
theorem smW_s12 : stepW sm0 2 0 (smW 12) = smW 13 := by
  refine (stepW_own (m := ⟨[4, 2], [0, 0], [16, 8], [([4, 2], [0, 0])], smIt0, 6, 6, [0]⟩) (it := ((5, (0, 0)), ((false, false), ((0, (0, (0, (0, 0)))), (0, 0))))) rfl rfl (by decide) (by decide)).trans ?_
  rw [workMS_5 (K := InC.mc sm0 0) (s := ⟨[4, 2], [0, 0], [16, 8], [([4, 2], [0, 0])], smIt0, 6, 6, [0]⟩) (x := ((5, (0, 0)), ((false, false), ((0, (0, (0, (0, 0)))), (0, 0))))) rfl (smPc 0) rfl rfl smPL smAP smAM]
  kernel_rfl
theorem smW_p12 : pickB sm0 2 0 (smW 12) = true := by kernel_rfl
theorem smW_s13 : stepW sm0 2 1 (smW 13) = smW 14 := by
  refine (stepW_own (m := ⟨[4, 2], [0, 0], [16, 8], [([4, 2], [0, 0])], smIt1, 6, 6, [0]⟩) (it := ((5, (0, 0)), ((false, false), ((0, (0, (0, (0, 0)))), (0, 0))))) rfl rfl (by decide) (by decide)).trans ?_
  rw [workMS_5 (K := InC.mc sm0 1) (s := ⟨[4, 2], [0, 0], [16, 8], [([4, 2], [0, 0])], smIt1, 6, 6, [0]⟩) (x := ((5, (0, 0)), ((false, false), ((0, (0, (0, (0, 0)))), (0, 0))))) rfl (smPc 1) rfl rfl smPL smAP smAM]
  kernel_rfl
theorem smW_p13 : pickB sm0 2 1 (smW 13) = true := by kernel_rfl
theorem smW_s14 : stepW sm0 2 0 (smW 14) = smW 15 := by kernel_rfl
theorem smW_p14 : pickB sm0 2 0 (smW 14) = true := by kernel_rfl
theorem smW_s15 : stepW sm0 2 1 (smW 15) = smW 16 := by kernel_rfl
theorem smW_p15 : pickB sm0 2 1 (smW 15) = true := by kernel_rfl
theorem smW_step0 : ∀ p, p < 16 → stepW sm0 2 (p % 2) (smW p) = smW (p + 1)
  | 0, _ => smW_s0
  | 1, _ => smW_s1
  | 2, _ => smW_s2
  | 3, _ => smW_s3
  | 4, _ => smW_s4
  | 5, _ => smW_s5
  | 6, _ => smW_s6
  | 7, _ => smW_s7
  | 8, _ => smW_s8
  | 9, _ => smW_s9
  | 10, _ => smW_s10
  | 11, _ => smW_s11
  | 12, _ => smW_s12
  | 13, _ => smW_s13
  | 14, _ => smW_s14
  | 15, _ => smW_s15
  | p + 16, h => absurd h (by omega)
theorem smW_pick0 : ∀ p, p < 16 → pickB sm0 2 (p % 2) (smW p) = true
  | 0, _ => smW_p0
  | 1, _ => smW_p1
  | 2, _ => smW_p2
  | 3, _ => smW_p3
  | 4, _ => smW_p4
  | 5, _ => smW_p5
  | 6, _ => smW_p6
  | 7, _ => smW_p7
  | 8, _ => smW_p8
  | 9, _ => smW_p9
  | 10, _ => smW_p10
  | 11, _ => smW_p11
  | 12, _ => smW_p12
  | 13, _ => smW_p13
  | 14, _ => smW_p14
  | 15, _ => smW_p15
  | p + 16, h => absurd h (by omega)
theorem smW_open : ∀ p, p < 16 → doneB (smW p).mss = false
  | 0, _ => by kernel_rfl
  | 1, _ => by kernel_rfl
  | 2, _ => by kernel_rfl
  | 3, _ => by kernel_rfl
  | 4, _ => by kernel_rfl
  | 5, _ => by kernel_rfl
  | 6, _ => by kernel_rfl
  | 7, _ => by kernel_rfl
  | 8, _ => by kernel_rfl
  | 9, _ => by kernel_rfl
  | 10, _ => by kernel_rfl
  | 11, _ => by kernel_rfl
  | 12, _ => by kernel_rfl
  | 13, _ => by kernel_rfl
  | 14, _ => by kernel_rfl
  | 15, _ => by kernel_rfl
  | p + 16, h => absurd h (by omega)
theorem smW_done : doneB (smW 16).mss = true := by kernel_rfl
end
section
open Go.RowKit
variable (A : Option Addr) (cap : Nat) (S : Option Addr) (cS : Nat) (es : List StS) (AP : Option Addr) (cP : Nat) (AD : Option Addr) (cD : Nat)
theorem smI_stepW (n x : Nat) (s : WS) : stepW (smI A cap S cS es AP cP AD cD) n x s = stepW sm0 n x s := rfl
theorem smI_pickB (n x : Nat) (s : WS) : pickB (smI A cap S cS es AP cP AD cD) n x s = pickB sm0 n x s := rfl
theorem smI_startW (n : Nat) : startW (smI A cap S cS es AP cP AD cD) n = startW sm0 n := rfl
theorem smW_start : startW (smI A cap S cS es AP cP AD cD) 2 = smW 0 := (smI_startW A cap S cS es AP cP AD cD 2).trans smW_start0
theorem smW_step (p : Nat) (hp : p < 16) : stepW (smI A cap S cS es AP cP AD cD) 2 (p % 2) (smW p) = smW (p + 1) := (smI_stepW A cap S cS es AP cP AD cD 2 (p % 2) (smW p)).trans (smW_step0 p hp)
theorem smW_pick (p : Nat) (hp : p < 16) : pickB (smI A cap S cS es AP cP AD cD) 2 (p % 2) (smW p) = true := (smI_pickB A cap S cS es AP cP AD cD 2 (p % 2) (smW p)).trans (smW_pick0 p hp)
end
end Go.Proofs.YtkmaeipoaoikpaaGreat
