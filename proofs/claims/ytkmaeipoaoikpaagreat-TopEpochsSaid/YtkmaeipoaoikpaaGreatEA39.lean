/-
  Lemmas and contracts (39): Sched, Pick, Done, Finish, Traj, STraj, Run.
-/
import Derived.WalkKit
import Derived.WalkSpells
import Derived.WalkLawsBesides
import Derived.Lib.Hide
import Derived.Deep.QuietTactic
import Derived.BigQuiet
import Derived.IntWalk
import Derived.Deep.RegionHeld3
import Derived.Maps.AppendAt
import Derived.ProofKit
import Derived.OpenShut
import Derived.Deep.Slices
import Derived.Deep.Fields
import Derived.Test.YtkmaeipoaoikpaaGreatProg
import Derived.Laws.OwnMore
import Derived.Deep.Draws
import Derived.Laws.Rows
import Derived.Laws.EntriesVeiled
import Derived.RangeFuncNested
import Derived.RangeFuncBox
import Derived.RangeFuncLeaves
import Derived.Shelf.Abstract
import Derived.OwnWalkIn
import Derived.TacticsInMore
import Derived.LoopNIn
import Derived.LoopIn
import Derived.StillTail
import Derived.OrdersIn
import Derived.RangeFuncCalls
import Derived.OrdersHeld
import Derived.Laws.Bits64
import Derived.Deep.DeepMust
import Derived.Deep.DeepCutAuto
import Derived.BigRegion
import Derived.Laws.BitsAllLaws
import Derived.Test.YtkmaeipoaoikpaaGreatShelf
import Derived.SizedLaws
import Derived.Deep.OwnRows
import Derived.Laws.CopyOwn
import Derived.RangeFuncFrom
import Derived.OwnWalk
import Derived.WalkMore
import Derived.Maps.Own
import Derived.Maps.Views
import Derived.Maps.Keyed
import Derived.Maps.OwnOps
import Derived.Maps.Ext
import Derived.Carry
import Derived.Lib.SliceRun
import Derived.ScopeJumps
import Derived.Test.YtkmaeipoaoikpaaGreatEA01
import Derived.Test.YtkmaeipoaoikpaaGreatEA02
import Derived.Test.YtkmaeipoaoikpaaGreatEA03
import Derived.Test.YtkmaeipoaoikpaaGreatEA04
import Derived.Test.YtkmaeipoaoikpaaGreatEA05
import Derived.Test.YtkmaeipoaoikpaaGreatEA06
import Derived.Test.YtkmaeipoaoikpaaGreatEA07
import Derived.Test.YtkmaeipoaoikpaaGreatEA08
import Derived.Test.YtkmaeipoaoikpaaGreatEA09
import Derived.Test.YtkmaeipoaoikpaaGreatEA10
import Derived.Test.YtkmaeipoaoikpaaGreatEA11
import Derived.Test.YtkmaeipoaoikpaaGreatEA12
import Derived.Test.YtkmaeipoaoikpaaGreatEA13
import Derived.Test.YtkmaeipoaoikpaaGreatEA14
import Derived.Test.YtkmaeipoaoikpaaGreatEA15
import Derived.Test.YtkmaeipoaoikpaaGreatEA16
import Derived.Test.YtkmaeipoaoikpaaGreatEA17
import Derived.Test.YtkmaeipoaoikpaaGreatEA18
import Derived.Test.YtkmaeipoaoikpaaGreatEA19
import Derived.Test.YtkmaeipoaoikpaaGreatEA20
import Derived.Test.YtkmaeipoaoikpaaGreatEA21
import Derived.Test.YtkmaeipoaoikpaaGreatEA22
import Derived.Test.YtkmaeipoaoikpaaGreatEA23
import Derived.Test.YtkmaeipoaoikpaaGreatEA24
import Derived.Test.YtkmaeipoaoikpaaGreatEA25
import Derived.Test.YtkmaeipoaoikpaaGreatEA26
import Derived.Test.YtkmaeipoaoikpaaGreatEA27
import Derived.Test.YtkmaeipoaoikpaaGreatEA28
import Derived.Test.YtkmaeipoaoikpaaGreatEA29
import Derived.Test.YtkmaeipoaoikpaaGreatEA30
import Derived.Test.YtkmaeipoaoikpaaGreatEA31
import Derived.Test.YtkmaeipoaoikpaaGreatEA32
import Derived.Test.YtkmaeipoaoikpaaGreatEA33
import Derived.Test.YtkmaeipoaoikpaaGreatEA34
import Derived.Test.YtkmaeipoaoikpaaGreatEA35
import Derived.Test.YtkmaeipoaoikpaaGreatEA36
import Derived.Test.YtkmaeipoaoikpaaGreatEA37
import Derived.Test.YtkmaeipoaoikpaaGreatEA38
namespace Go.Proofs.YtkmaeipoaoikpaaGreat
set_option linter.unusedVariables false
set_option linter.unusedSimpArgs false
set_option maxRecDepth 100000
section
open Go.RowKit
theorem one_at {w : World} {base n k c : Nat} {A : Option Addr} {e : TypeId} {l : List Nat} {f : Nat → Value} {b : Nat} (h : w.ownsRow base e 1 (.slice A n c) n (l.map f)) (hx : l[k]? = some b) (hk : k < n) : ∃ g, A = some ⟨g, 0, none⟩ ∧ g < w.heap.size ∧ w.cell? ⟨g, k, none⟩ = some (f b) := by
  have hr := Rd.of_own h
  obtain ⟨g, o, e', hlt, hc⟩ := hr.2 (by omega)
  obtain ⟨A', cap', hv, _, _, hg⟩ := own_form h
  injection hv with hA _ _
  obtain ⟨g', hg1, _, _⟩ := hg (by omega)
  rw [hA, hg1] at e'
  injection e' with e'
  injection e' with e1 e2
  subst e1 e2
  refine ⟨g', by rw [hA, hg1], hlt, ?_⟩
  have := hc k (f b) (by rw [List.getElem?_map, hx]; rfl)
  rwa [Nat.zero_add] at this
set_option maxHeartbeats 2000000 in
theorem schedAt_any {own : Nat → Nat} {w : World} {xb : Nat} {I : InC} {mbs lbs : List Nat} {mss : List MS} {lss : List LS} {AW : Option Addr} {cW : Nat} {AL : Option Addr} {cL cnt : Nat} (h : WorldIn own w xb I mbs lbs mss lss AW cW AL cL cnt) (n x b li lo : Nat) (hn : mbs.length = n) (hl : lbs.length = n) (hx : x < n) (hn64 : n ≤ 64) (hb : mbs[x]? = some b) (hi : lbs[(x + n - 1) % n]? = some li) (ho : lbs[x]? = some lo) :
    Calls Tryz.prog 97 #[.pointer (some ⟨xb, 0, none⟩), .int .i64 x] w fun e w' => e = .returned (.tuple #[ifV b, ptV li, ptV lo, .bool true]) ∧ Below w.heap.size w w' := by
  have x0 := h.blk.cell 0
  have x1 := h.blk.cell 1
  have xl := h.blk.lt
  have hw := h.wrow
  have hr := h.lrow
  rw [hn] at hw x0
  rw [hl] at hr x1
  obtain ⟨gw, rfl, lw, cw⟩ := one_at hw hb hx
  obtain ⟨p, hp⟩ : ∃ p, (x + n - 1) % n = p := ⟨_, rfl⟩
  have hpn : p < n := by rw [← hp]; exact Nat.mod_lt _ (by omega)
  rw [hp] at hi
  obtain ⟨gl, rfl, lg, ci⟩ := one_at hr hi hpn
  obtain ⟨gl', e', -, co⟩ := one_at hr ho hx
  injection e' with e'
  injection e' with e'
  subst e'
  have g1 : decide ((x : Int) < 0) = false := decide_eq_false (by omega)
  have g2 : decide ((n : Int) ≤ (x : Int)) = false := decide_eq_false (by omega)
  obtain ⟨s, hs⟩ : ∃ s, x + n = s := ⟨_, rfl⟩
  obtain ⟨s1, hs1⟩ : ∃ s1, x + n - 1 = s1 := ⟨_, rfl⟩
  have w1 : IntKind.i64.wrap ((x : Int) + (n : Int)) = (s : Int) := by rw [show (x : Int) + (n : Int) = (s : Int) by omega]; exact IntWalk.i64_in _ (by omega)
  have w2 : IntKind.i64.wrap ((s : Int) - 1) = (s1 : Int) := by rw [show (s : Int) - 1 = (s1 : Int) by omega]; exact IntWalk.i64_in _ (by omega)
  rw [hs1] at hp
  have hm : (s1 : Int) % (n : Int) = (p : Int) := by rw [← hp]; exact (Int.natCast_emod s1 n).symm
  have HS := Lib.hid hs
  have HS1 := Lib.hid hs1
  have HP := Lib.hid hp
  have i1 : (0 : Int) ≤ (x : Int) := by omega
  have i2 : (x : Int) < (n : Int) := by omega
  have i3 : (0 : Int) ≤ (p : Int) := by omega
  have i4 : (p : Int) < (n : Int) := by omega
  have nz : ¬ (n : Int) = 0 := by omega
  clear h hw hr hn hl hb hi ho hs hs1 hp
  go_enter Tryz.func97, Tryz.ntmps97
  go_wp2_with fail
  go_region
  go_wp2_with fail
  exact bodyPost_ret (v := .tuple #[ifV b, ptV li, ptV lo, .bool true]) (by simp [results, Tryz.results97, go_sem]) rfl ⟨rfl, (Below.refl _ _).drew⟩
theorem invokeDo (b : Nat) (W : World) : (method 544 37 (.pointer (some ⟨b, 0, none⟩)) "Do").run Tryz.prog W = .ok (128, .pointer (some ⟨b, 0, none⟩)) W := by kernel_rfl
theorem invokeNext (b : Nat) (W : World) : (method 544 37 (.pointer (some ⟨b, 0, none⟩)) "Next").run Tryz.prog W = .ok (127, .pointer (some ⟨b, 0, none⟩)) W := by kernel_rfl
theorem invokeTrajectory (b : Nat) (W : World) : (method 544 37 (.pointer (some ⟨b, 0, none⟩)) "Trajectory").run Tryz.prog W = .ok (56, .pointer (some ⟨b, 0, none⟩)) W := by kernel_rfl
theorem WorldIn.setC {own : Nat → Nat} {w : World} {xb : Nat} {I : InC} {mbs lbs : List Nat} {mss : List MS} {lss : List LS} {AW : Option Addr} {cW : Nat} {AL : Option Addr} {cL cnt : Nat} (h : WorldIn own w xb I mbs lbs mss lss AW cW AL cL cnt) (c : Nat) : WorldIn own (w.setCell ⟨xb, 2, none⟩ (.int .i64 c)) xb I mbs lbs mss lss AW cW AL cL c ∧ But (fun i => own i ≠ 0) w (w.setCell ⟨xb, 2, none⟩ (.int .i64 c)) := by
  have hg2 := gr_set (p := ⟨xb, 2, none⟩) (World.grownBy.refl w (some xb)) (.inl rfl) (.int .i64 c)
  refine ⟨⟨by simpa [worldC] using h.blk.set_ 2 (.int .i64 c), h.ox, h.wrow.kept hg2 (.inr (own_blk_ne h.wrow h.blk (by decide))), h.lrow.kept hg2 (.inr (own_blk_ne h.lrow h.blk (by decide))), h.ow, h.ol, h.parts.move hg2.size (fun i hi e => hg2.block i hi (fun e1 => ?_)) (fun _ _ => rfl)⟩, But.of_gr hg2 (by rw [h.ox]; decide)⟩
  injection e1 with e1
  subst e1
  have := h.ox
  omega
structure Steps (own own' : Nat → Nat) (w w' : World) : Prop where
  old : ∀ i, i < w.heap.size → own' i = own i
  new : ∀ i, own' i ≠ 0 → own i ≠ 0 ∨ w.heap.size ≤ i
  but : But (fun i => own i ≠ 0) w w'
set_option maxHeartbeats 2000000 in
theorem schedPick_core {own : Nat → Nat} {w : World} {xb : Nat} {I : InC} {mbs lbs : List Nat} {mss mss' : List MS} {lss lss' : List LS} {AW : Option Addr} {cW : Nat} {AL : Option Addr} {cL cnt : Nat} (h : WorldIn own w xb I mbs lbs mss lss AW cW AL cL cnt) (n x b li lo : Nat) (hn : mbs.length = n) (hl : lbs.length = n) (hx : x < n) (hn64 : n ≤ 64) (hb : mbs[x]? = some b) (hi : lbs[(x + n - 1) % n]? = some li) (ho : lbs[x]? = some lo) (hc : cnt < 1000000000000)
    (hdo : ∀ W, Below w.heap.size w W → Calls Tryz.prog 128 #[.pointer (some ⟨b, 0, none⟩), .pointer (some ⟨li, 0, none⟩), .pointer (some ⟨lo, 0, none⟩)] W fun e w' => e = .returned (.int .i64 0) ∧ ∃ own', WorldIn own' w' xb I mbs lbs mss' lss' AW cW AL cL cnt ∧ Steps own own' W w') :
    Calls Tryz.prog 71 #[.pointer (some ⟨xb, 0, none⟩), .int .i64 x] w fun e w' => e = .returned (.bool true) ∧ ∃ own', WorldIn own' w' xb I mbs lbs mss' lss' AW cW AL cL (cnt + 1) ∧ (∀ i, own' i ≠ 0 → own i ≠ 0 ∨ w.heap.size ≤ i) ∧ But (fun i => own i ≠ 0) w w' := by
  have HAT := Lib.hid (schedAt_any h n x b li lo hn hl hx hn64 hb hi ho)
  have HDO := Lib.hid hdo
  have hme := invokeDo b
  have HOX := Lib.hid h.ox
  have HC := Lib.hid hc
  clear h hdo hb hi ho
  go_enter Tryz.func71, Tryz.ntmps71
  go_wp2_with fail
  ((with_reducible refine HAT.out.mono ?_); rintro e w1 ⟨rfl, hb1⟩)
  have HB1 := Lib.hid hb1
  clear hb1
  go_wp2_with fail
  ((with_reducible refine (HDO.out w1 HB1.out).mono ?_); rintro e w2 ⟨rfl, own', hW2, hst2⟩)
  have c2 := hW2.blk.cell 2
  have f2 := hW2.blk.frozen 2
  have l2 := hW2.blk.lt
  obtain ⟨c, hc'⟩ : ∃ c, cnt + 1 = c := ⟨_, rfl⟩
  have hwc : IntKind.i64.wrap ((cnt : Int) + 1) = (c : Int) := by rw [show (cnt : Int) + 1 = (c : Int) by omega]; exact IntWalk.i64_in _ (by have := HC.out; omega)
  have HW2 := Lib.hid hW2
  have HS2 := Lib.hid hst2
  have HCE := Lib.hid hc'
  clear hW2 hst2 hc' hme hc
  go_wp2_with fail
  go_ret
  have hfin := HW2.out.setC c
  rw [HCE.out]
  refine ⟨rfl, own', hfin.1, fun i hi => ?_, ?_⟩
  · rcases HS2.out.new i hi with h1 | h1
    · exact .inl h1
    · exact .inr (Nat.le_trans HB1.out.size h1)
  · refine do_post (S := fun i => own i ≠ 0) ((But.of_below _ HB1.out).trans HS2.out.but) hfin.2 (fun i hi h => ?_)
    rw [← HS2.out.old i (Nat.lt_of_lt_of_le hi HB1.out.size)]
    exact h
end
section
open Go.RowKit
variable {own : Nat → Nat} {w : World} {xb : Nat} {I : InC} {mbs lbs : List Nat} {mss : List MS} {lss : List LS} {AW : Option Addr} {cW : Nat} {AL : Option Addr} {cL cnt : Nat}
theorem Parts.setM (h : Parts own w I mbs lbs mss lss) {own' : Nat → Nat} {w' : World} {x b : Nat} {s' : MS} (hb : mbs[x]? = some b) (hs : w.heap.size ≤ w'.heap.size) (hk : ∀ i, i < w.heap.size → 2 ≤ own i → own i ≠ 2 * x + 2 → w'.heap[i]? = w.heap[i]?) (hl : ∀ i, i < w.heap.size → own' i = own i) (hm : MachAt (fun j => own' j = 2 * x + 2) w' b (I.mc x) s') :
    Parts own' w' I mbs lbs (mss.set x s') lss := by
  refine ⟨by rw [List.length_set]; exact h.lm, h.ll, fun i b' s h1 h2 => ?_, fun i b' l h1 h2 => ?_⟩
  · by_cases hix : i = x
    · subst hix
      rw [hb] at h1
      injection h1 with h1
      subst h1
      rw [List.getElem?_set_self (by rw [h.lm]; exact (List.getElem?_eq_some_iff.1 hb).1)] at h2
      injection h2 with h2
      subst h2
      exact hm
    · rw [List.getElem?_set_ne (fun e => hix e.symm)] at h2
      exact ((h.mach i b' s h1 h2).mono (T := fun j => own' j = 2 * i + 2) (fun j hj e => by rw [hl j hj]; exact e)).step hs (fun j hj e => hk j hj (by rw [← hl j hj, e]; omega) (by rw [← hl j hj, e]; omega))
  · exact ((h.link i b' l h1 h2).mono (T := fun j => own' j = 2 * i + 3) (fun j hj e => by rw [hl j hj]; exact e)).step hs (fun j hj e => hk j hj (by rw [← hl j hj, e]; omega) (by rw [← hl j hj, e]; omega))
theorem Parts.setML (h : Parts own w I mbs lbs mss lss) {own' : Nat → Nat} {w' : World} {x y b lb : Nat} {s' : MS} {l' : LS} (hb : mbs[x]? = some b) (hlb : lbs[y]? = some lb) (hs : w.heap.size ≤ w'.heap.size) (hk : ∀ i, i < w.heap.size → 2 ≤ own i → own i ≠ 2 * x + 2 → own i ≠ 2 * y + 3 → w'.heap[i]? = w.heap[i]?) (hl : ∀ i, i < w.heap.size → own' i = own i) (hm : MachAt (fun j => own' j = 2 * x + 2) w' b (I.mc x) s')
    (hL : LinkAt (fun j => own' j = 2 * y + 3) w' lb I.c.ca.toNat l'.s l'.r l'.q) : Parts own' w' I mbs lbs (mss.set x s') (lss.set y l') := by
  refine ⟨by rw [List.length_set]; exact h.lm, by rw [List.length_set]; exact h.ll, fun i b' s h1 h2 => ?_, fun i b' l h1 h2 => ?_⟩
  · by_cases hix : i = x
    · subst hix
      rw [hb] at h1
      injection h1 with h1
      subst h1
      rw [List.getElem?_set_self (by rw [h.lm]; exact (List.getElem?_eq_some_iff.1 hb).1)] at h2
      injection h2 with h2
      subst h2
      exact hm
    · rw [List.getElem?_set_ne (fun e => hix e.symm)] at h2
      exact ((h.mach i b' s h1 h2).mono (T := fun j => own' j = 2 * i + 2) (fun j hj e => by rw [hl j hj]; exact e)).step hs (fun j hj e => hk j hj (by rw [← hl j hj, e]; omega) (by rw [← hl j hj, e]; omega) (by rw [← hl j hj, e]; omega))
  · by_cases hiy : i = y
    · subst hiy
      rw [hlb] at h1
      injection h1 with h1
      subst h1
      rw [List.getElem?_set_self (by rw [h.ll]; exact (List.getElem?_eq_some_iff.1 hlb).1)] at h2
      injection h2 with h2
      subst h2
      exact hL
    · rw [List.getElem?_set_ne (fun e => hiy e.symm)] at h2
      exact ((h.link i b' l h1 h2).mono (T := fun j => own' j = 2 * i + 3) (fun j hj e => by rw [hl j hj]; exact e)).step hs (fun j hj e => hk j hj (by rw [← hl j hj, e]; omega) (by rw [← hl j hj, e]; omega) (by rw [← hl j hj, e]; omega))
theorem WorldIn.turn (h : WorldIn own w xb I mbs lbs mss lss AW cW AL cL cnt) {own' : Nat → Nat} {w' : World} {mss' : List MS} {lss' : List LS} (hs : w.heap.size ≤ w'.heap.size) (hk : ∀ i, i < w.heap.size → own i = 1 → w'.heap[i]? = w.heap[i]?) (hl : ∀ i, i < w.heap.size → own' i = own i) (hp : Parts own' w' I mbs lbs mss' lss') : WorldIn own' w' xb I mbs lbs mss' lss' AW cW AL cL cnt :=
  ⟨(hk xb h.blk.lt h.ox).trans h.blk, (hl xb h.blk.lt).trans h.ox, Hg.own (S := fun i => own i = 1) h.wrow (fun g hg => h.ow g ((own_blkOf _ _ _).symm.trans hg)) w' hs hk, Hg.own (S := fun i => own i = 1) h.lrow (fun g hg => h.ol g ((own_blkOf _ _ _).symm.trans hg)) w' hs hk,
    fun g hg => (hl g (h.wrow.lt g ((own_blkOf _ _ _).trans hg)).2).trans (h.ow g hg), fun g hg => (hl g (h.lrow.lt g ((own_blkOf _ _ _).trans hg)).2).trans (h.ol g hg), hp⟩
end
section
open Go.RowKit
variable {own : Nat → Nat} {w : World} {xb : Nat} {I : InC} {mbs lbs : List Nat} {mss : List MS} {lss : List LS} {AW : Option Addr} {cW : Nat} {AL : Option Addr} {cL cnt : Nat}
def PickRet (own : Nat → Nat) (w : World) (xb : Nat) (I : InC) (mbs lbs : List Nat) (mss : List MS) (lss : List LS) (AW : Option Addr) (cW : Nat) (AL : Option Addr) (cL cnt : Nat) (e : Ending) (w' : World) : Prop :=
  e = .returned (.bool true) ∧ ∃ own', WorldIn own' w' xb I mbs lbs mss lss AW cW AL cL (cnt + 1) ∧ (∀ i, own' i ≠ 0 → own i ≠ 0 ∨ w.heap.size ≤ i) ∧ But (fun i => own i ≠ 0) w w'
theorem schedPick_own (h : WorldIn own w xb I mbs lbs mss lss AW cW AL cL cnt) (hO : I.Ok) (n x : Nat) (s : MS) (it : RItem) (hn : mbs.length = n) (hl : lbs.length = n) (hx : x < n) (hn64 : n ≤ 64) (hxw : (x : Int) < I.c.wk) (hc : cnt < 1000000000000) (hs : mss[x]? = some s) (hi : s.its[s.nx]? = some it) (hk : it.1.1 = 1 ∨ it.1.1 = 2 ∨ it.1.1 = 5 ∨ it.1.1 = 6) (hit : ItemOk (I.mc x) it) (hsm : s.Small) :
    Calls Tryz.prog 71 #[.pointer (some ⟨xb, 0, none⟩), .int .i64 x] w (PickRet own w xb I mbs lbs (mss.set x (nextMS (I.mc x) (workMS (I.mc x) s it) it.1.2.1)) lss AW cW AL cL cnt) := by
  obtain ⟨b, hb⟩ : ∃ b, mbs[x]? = some b := ⟨_, List.getElem?_eq_getElem (by omega)⟩
  obtain ⟨li, hli⟩ : ∃ b, lbs[(x + n - 1) % n]? = some b := ⟨_, List.getElem?_eq_getElem (by rw [hl]; exact Nat.mod_lt _ (by omega))⟩
  obtain ⟨lo, hlo⟩ : ∃ b, lbs[x]? = some b := ⟨_, List.getElem?_eq_getElem (by omega)⟩
  refine schedPick_core h n x b li lo hn hl hx hn64 hb hli hlo hc (fun W hW => ?_)
  have hWW := h.below (own' := own) hW (fun _ _ => rfl)
  refine (machDo_own (fun j => own j = 2 * x + 2) b (I.mc x) s it _ _ W (hO.mc hxw) (hWW.parts.mach x b s hb hs) hi hk hit hsm).mono ?_
  rintro e w' ⟨rfl, hm, hbu⟩
  refine ⟨rfl, lab own W.heap.size (2 * x + 2), hWW.turn hbu.size (fun i hi e => hbu.block i hi (fun e2 => by omega)) (lab_old _ _ _) (hWW.parts.setM hb hbu.size (fun i hi _ hne => hbu.block i hi hne) (lab_old _ _ _) (hm.mono (fun i hi hS => ?_))), lab_old _ _ _, fun i hi => ?_, hbu.mono (fun i _ e => by omega)⟩
  · rcases hS with hS | hS
    · by_cases hiW : i < W.heap.size
      · rw [lab_old _ _ _ i hiW]; exact hS
      · exact lab_new _ _ _ (by omega)
    · exact lab_new _ _ _ hS
  · unfold lab at hi
    split at hi
    · exact .inl hi
    · exact .inr (by omega)
def lab2 (own : Nat → Nat) (n m k l : Nat) : Nat → Nat := fun j => if j < n then own j else if j < m then k else l
theorem lab2_old (own : Nat → Nat) (n m k l : Nat) : ∀ i, i < n → lab2 own n m k l i = own i := fun i hi => if_pos hi
theorem lab2_mid (own : Nat → Nat) {n m k l i : Nat} (h1 : n ≤ i) (h2 : i < m) : lab2 own n m k l i = k := by unfold lab2; rw [if_neg (by omega), if_pos h2]
theorem lab2_new (own : Nat → Nat) {n m k l i : Nat} (h1 : n ≤ i) (h2 : m ≤ i) : lab2 own n m k l i = l := by unfold lab2; rw [if_neg (by omega), if_neg (by omega)]
theorem schedPick_send (h : WorldIn own w xb I mbs lbs mss lss AW cW AL cL cnt) (hO : I.Ok) (n x : Nat) (s : MS) (l : LS) (it : RItem) (hn : mbs.length = n) (hl : lbs.length = n) (hx : x < n) (hn64 : n ≤ 64) (hxw : (x : Int) < I.c.wk) (hc : cnt < 1000000000000) (hs : mss[x]? = some s) (hls : lss[x]? = some l) (hi : s.its[s.nx]? = some it) (hk : it.1.1 = 3) (hit : ItemOk (I.mc x) it) (hsm : s.Small) (hroom : l.s - l.r < I.c.ca.toNat) (hs9 : l.s < 1000000000) :
    Calls Tryz.prog 71 #[.pointer (some ⟨xb, 0, none⟩), .int .i64 x] w (PickRet own w xb I mbs lbs (mss.set x (nextMS (I.mc x) s it.1.2.1)) (lss.set x ⟨l.s + 1, l.r, l.q ++ [(it.2.2.1, pcL s.G it.2.2.2.1.toNat (it.2.2.2.2 - it.2.2.2.1).toNat)]⟩) AW cW AL cL cnt) := by
  obtain ⟨b, hb⟩ : ∃ b, mbs[x]? = some b := ⟨_, List.getElem?_eq_getElem (by omega)⟩
  obtain ⟨li, hli⟩ : ∃ b, lbs[(x + n - 1) % n]? = some b := ⟨_, List.getElem?_eq_getElem (by rw [hl]; exact Nat.mod_lt _ (by omega))⟩
  obtain ⟨lo, hlo⟩ : ∃ b, lbs[x]? = some b := ⟨_, List.getElem?_eq_getElem (by omega)⟩
  refine schedPick_core h n x b li lo hn hl hx hn64 hb hli hlo hc (fun W hW => ?_)
  have hWW := h.below (own' := own) hW (fun _ _ => rfl)
  refine (machDo_send (fun j => own j = 2 * x + 2 ∧ j < W.heap.size) (fun j => own j = 2 * x + 3 ∧ j < W.heap.size) b (I.mc x) s it _ lo I.c.ca.toNat l.s l.r l.q W (hO.mc hxw) ((hWW.parts.mach x b s hb hs).mono (fun i hi h => ⟨h, hi⟩)) ((hWW.parts.link x lo l hlo hls).mono (fun i hi h => ⟨h, hi⟩)) (fun i _ h1 h2 => by have := h1.1; have := h2.1; omega) hroom hs9 hi hk hit hsm).mono ?_
  rintro e w' ⟨rfl, B, hB, hm, hL, hbu⟩
  refine ⟨rfl, lab2 own W.heap.size B (2 * x + 3) (2 * x + 2), hWW.turn hbu.size (fun i hi e => hbu.block i hi (fun e2 => by rcases e2 with e2 | e2 <;> have := e2.1 <;> omega)) (lab2_old _ _ _ _ _) (hWW.parts.setML hb hlo hbu.size (fun i hi _ h1 h2 => hbu.block i hi (fun e2 => by rcases e2 with e2 | e2 <;> have := e2.1 <;> omega)) (lab2_old _ _ _ _ _) (hm.mono (fun i hi hS => ?_)) (hL.mono (fun i hi hT => ?_))), lab2_old _ _ _ _ _, fun i hi => ?_, hbu.mono (fun i _ e => by rcases e with e | e <;> have := e.1 <;> omega)⟩
  · rcases hS with hS | hS
    · rw [lab2_old _ _ _ _ _ i hS.2]; exact hS.1
    · exact lab2_new _ (by omega) hS
  · rcases hT with hT | hT
    · rw [lab2_old _ _ _ _ _ i hT.2]; exact hT.1
    · exact lab2_mid _ hT.1 hT.2
  · unfold lab2 at hi
    split at hi
    · exact .inl hi
    · exact .inr (by omega)
theorem schedPick_recv (h : WorldIn own w xb I mbs lbs mss lss AW cW AL cL cnt) (hO : I.Ok) (n x y : Nat) (s : MS) (l : LS) (it : RItem) (vs : List Int) (q : List (TagN × List Int)) (hn : mbs.length = n) (hl : lbs.length = n) (hx : x < n) (hn64 : n ≤ 64) (hxw : (x : Int) < I.c.wk) (hc : cnt < 1000000000000) (hs : mss[x]? = some s) (hy : (x + n - 1) % n = y) (hls : lss[y]? = some l) (hi : s.its[s.nx]? = some it) (hk : it.1.1 = 4) (hit : ItemOk (I.mc x) it) (hsm : s.Small) (hq : l.q = (it.2.2.1, vs) :: q) (hv : vs.length = (it.2.2.2.2 - it.2.2.2.1).toNat) :
    Calls Tryz.prog 71 #[.pointer (some ⟨xb, 0, none⟩), .int .i64 x] w (PickRet own w xb I mbs lbs (mss.set x (nextMS (I.mc x) { s with G := recvG it.2.1.2 s.G it.2.2.2.1.toNat (it.2.2.2.2 - it.2.2.2.1).toNat vs } it.1.2.1)) (lss.set y ⟨l.s, l.r + 1, q⟩) AW cW AL cL cnt) := by
  obtain ⟨b, hb⟩ : ∃ b, mbs[x]? = some b := ⟨_, List.getElem?_eq_getElem (by omega)⟩
  obtain ⟨li, hli⟩ : ∃ b, lbs[(x + n - 1) % n]? = some b := ⟨_, List.getElem?_eq_getElem (by rw [hl]; exact Nat.mod_lt _ (by omega))⟩
  obtain ⟨lo, hlo⟩ : ∃ b, lbs[x]? = some b := ⟨_, List.getElem?_eq_getElem (by omega)⟩
  refine schedPick_core h n x b li lo hn hl hx hn64 hb hli hlo hc (fun W hW => ?_)
  rw [hy] at hli
  have hWW := h.below (own' := own) hW (fun _ _ => rfl)
  have hL0 := hWW.parts.link y li l hli hls
  rw [hq] at hL0
  refine (machDo_recv (fun j => own j = 2 * x + 2 ∧ j < W.heap.size) (fun j => own j = 2 * y + 3 ∧ j < W.heap.size) b (I.mc x) s it _ li I.c.ca.toNat l.s l.r vs q W (hO.mc hxw) ((hWW.parts.mach x b s hb hs).mono (fun i hi h => ⟨h, hi⟩)) (hL0.mono (fun i hi h => ⟨h, hi⟩)) (fun i _ h1 h2 => by have := h1.1; have := h2.1; omega) hi hk hit hsm hv).mono ?_
  rintro e w' ⟨rfl, B, hB, hm, hL, hbu⟩
  refine ⟨rfl, lab2 own W.heap.size B 0 (2 * x + 2), hWW.turn hbu.size (fun i hi e => hbu.block i hi (fun e2 => by rcases e2 with e2 | e2 <;> have := e2.1 <;> omega)) (lab2_old _ _ _ _ _) (hWW.parts.setML hb hli hbu.size (fun i hi _ h1 h2 => hbu.block i hi (fun e2 => by rcases e2 with e2 | e2 <;> have := e2.1 <;> omega)) (lab2_old _ _ _ _ _) (hm.mono (fun i hi hS => ?_)) (hL.mono (fun i hi hT => ?_))), lab2_old _ _ _ _ _, fun i hi => ?_, hbu.mono (fun i _ e => by rcases e with e | e <;> have := e.1 <;> omega)⟩
  · rcases hS with hS | hS
    · rw [lab2_old _ _ _ _ _ i hS.2]; exact hS.1
    · exact lab2_new _ (by omega) hS
  · rw [lab2_old _ _ _ _ _ i hT.2]; exact hT.1
  · unfold lab2 at hi
    split at hi
    · exact .inl hi
    · exact .inr (by omega)
end
section
open Go.RowKit
def doneS (s : MS) : Bool := decide (s.its.length ≤ s.nx)
def doneB (mss : List MS) : Bool := mss.all doneS
theorem doneB_true {mss : List MS} {n : Nat} (hl : mss.length = n) (h : ∀ j s, j < n → mss[j]? = some s → doneS s = true) : doneB mss = true := by
  unfold doneB
  rw [List.all_eq_true]
  intro s hs
  obtain ⟨j, hj⟩ := List.getElem?_of_mem hs
  exact h j s (by rw [← hl]; exact (List.getElem?_eq_some_iff.1 hj).1) hj
theorem doneB_false {mss : List MS} {j : Nat} {s : MS} (h : mss[j]? = some s) (hs : doneS s = false) : doneB mss = false := by
  cases hd : doneB mss with
  | false => rfl
  | true =>
    unfold doneB at hd
    rw [List.all_eq_true] at hd
    have := hd s (List.mem_of_getElem? h)
    rw [hs] at this
    cases this
set_option maxHeartbeats 2000000 in
theorem schedDone_any {own : Nat → Nat} {w : World} {xb : Nat} {I : InC} {mbs lbs : List Nat} {mss : List MS} {lss : List LS} {AW : Option Addr} {cW : Nat} {AL : Option Addr} {cL cnt : Nat} (h : WorldIn own w xb I mbs lbs mss lss AW cW AL cL cnt) (n : Nat) (hn : mbs.length = n) (hn64 : n ≤ 64) :
    Calls Tryz.prog 33 #[.pointer (some ⟨xb, 0, none⟩)] w fun e w' => e = .returned (.bool (doneB mss)) ∧ Below w.heap.size w w' := by
  have HW := Lib.hid h
  have HN := Lib.hid hn
  have x0 := h.blk.cell 0
  have xl := h.blk.lt
  have hw := h.wrow
  rw [hn] at hw x0
  have HR := Lib.hid hw
  clear h hn hw
  go_enter Tryz.func33, Tryz.ntmps33
  go_wp2_with fail
  clear x0 xl
  go_loopw [14] (fun v wr => ∃ i : Nat, i ≤ n ∧ v = .int .i64 i ∧ Hid (∀ j s, j < i → mss[j]? = some s → doneS s = true) ∧ Below w.heap.size w wr) (fun v _ => n - (intOf v).toNat)
  case atStart => exact ⟨0, by omega, rfl, Lib.hid (fun j s h => by omega), Below.refl _ _⟩
  case round =>
    obtain ⟨i, hi, rfl, hd, hb⟩ := hrel
    by_cases hlt : i < n
    · obtain ⟨b, hmb⟩ : ∃ b, mbs[i]? = some b := ⟨_, List.getElem?_eq_getElem (by rw [HN.out]; exact hlt)⟩
      obtain ⟨s, hs⟩ : ∃ s, mss[i]? = some s := ⟨_, List.getElem?_eq_getElem (by rw [HW.out.parts.lm, HN.out]; exact hlt)⟩
      obtain ⟨g, rfl, lg, cg⟩ := one_at (own_below HR.out hb) hmb hlt
      obtain ⟨F, a, hM, -, -⟩ := (HW.out.below (own' := own) hb (fun _ _ => rfl)).parts.mach i b s hmb hs
      have hme := invokeNext b
      have HM := Lib.hid hM
      have HS := Lib.hid hs
      have HB := Lib.hid hb
      have r1 : (0 : Int) ≤ (i : Int) := by omega
      have r2 : (i : Int) < (n : Int) := by omega
      clear hM hs hmb hb
      by_cases hdn : s.its.length ≤ s.nx
      · have HC := Lib.hid (machNext_none F b (I.mc i) s a wr HM.out hdn)
        have HD : Hid (doneS s = true) := Lib.hid (decide_eq_true hdn)
        clear hdn
        go_wp2_with fail
        ((with_reducible refine HC.out.mono ?_); rintro e w1 ⟨rfl, hb1⟩)
        have HB1 := Lib.hid (HB.out.trans (hb1.mono HB.out.size))
        clear hb1
        go_wp2_with fail
        go_roundw
        case rel =>
          refine ⟨i + 1, by omega, by go_num, Lib.hid (fun j s' hj hs' => ?_), HB1.out.alloc HB1.out.size _⟩
          by_cases hji : j < i
          · exact hd.out j s' hji hs'
          · obtain rfl : j = i := by omega
            rw [HS.out] at hs'
            injection hs' with hs'
            rw [← hs']
            exact HD.out
        case measure => simp [intOf]; omega
      · obtain ⟨⟨⟨k1, t, u⟩, ⟨⟨sd, ad⟩, ⟨j1, j2, j3, j4, j5⟩, ⟨j6, j7⟩⟩⟩, hx⟩ : ∃ x, s.its[s.nx]? = some x := ⟨_, List.getElem?_eq_getElem (by omega)⟩
        have HC := Lib.hid (machNext_some F b (I.mc i) s a k1 t u sd ad j1 j2 j3 j4 j5 j6 j7 wr HM.out hx)
        have HD : Hid (doneS s = false) := Lib.hid (decide_eq_false hdn)
        clear hdn hx
        go_wp2_with fail
        ((with_reducible refine HC.out.mono ?_); rintro e w1 ⟨rfl, hb1⟩)
        have HB1 := Lib.hid (HB.out.trans (hb1.mono HB.out.size))
        clear hb1
        go_wp2_with fail
        go_ret
        exact ⟨by rw [doneB_false HS.out HD.out]; rfl, HB1.out.alloc HB1.out.size _⟩
    · obtain rfl : i = n := by omega
      have HB := Lib.hid hb
      clear hb
      go_wp2_with fail
      go_ret
      exact ⟨by rw [doneB_true (by rw [HW.out.parts.lm]; exact HN.out) hd.out]; rfl, HB.out⟩
end
section
open Go.RowKit
structure WS where
  mss : List MS
  lss : List LS
  cnt : Nat
structure RunIn (own0 : Nat → Nat) (w0 : World) (own : Nat → Nat) (w : World) (xb : Nat) (I : InC) (mbs lbs : List Nat) (s : WS) (AW : Option Addr) (cW : Nat) (AL : Option Addr) (cL : Nat) : Prop where
  wld : WorldIn own w xb I mbs lbs s.mss s.lss AW cW AL cL s.cnt
  new : ∀ i, own i ≠ 0 → own0 i ≠ 0 ∨ w0.heap.size ≤ i
  but : But (fun i => own0 i ≠ 0) w0 w
theorem RunIn.step {own0 own own' : Nat → Nat} {w0 w w' : World} {xb : Nat} {I : InC} {mbs lbs : List Nat} {s s' : WS} {AW : Option Addr} {cW : Nat} {AL : Option Addr} {cL : Nat} (h : RunIn own0 w0 own w xb I mbs lbs s AW cW AL cL) (hw : WorldIn own' w' xb I mbs lbs s'.mss s'.lss AW cW AL cL s'.cnt) (hn : ∀ i, own' i ≠ 0 → own i ≠ 0 ∨ w.heap.size ≤ i) (hb : But (fun i => own i ≠ 0) w w') : RunIn own0 w0 own' w' xb I mbs lbs s' AW cW AL cL :=
  ⟨hw, fun i hi => by
    rcases hn i hi with h1 | h1
    · exact h.new i h1
    · exact .inr (Nat.le_trans h.but.size h1), do_post (S := fun i => own0 i ≠ 0) h.but hb (fun i hi h1 => by
      rcases h.new i h1 with h2 | h2
      · exact h2
      · omega)⟩
theorem RunIn.below {own0 own : Nat → Nat} {w0 w w' : World} {xb : Nat} {I : InC} {mbs lbs : List Nat} {s : WS} {AW : Option Addr} {cW : Nat} {AL : Option Addr} {cL : Nat} (h : RunIn own0 w0 own w xb I mbs lbs s AW cW AL cL) (hb : Below w.heap.size w w') : RunIn own0 w0 own w' xb I mbs lbs s AW cW AL cL :=
  h.step (h.wld.below hb (fun _ _ => rfl)) (fun i hi => .inl hi) (But.of_below _ hb)
def FinJ (own0 : Nat → Nat) (w0 : World) (xb : Nat) (I : InC) (mbs lbs : List Nat) (σ : Nat → WS) (AW : Option Addr) (cW : Nat) (AL : Option Addr) (cL N most : Nat) (a' : Act) (w' : World) : Prop := ∃ (p : Nat) (own : Nat → Nat) (u6 u7 u8 u9 u10 u11 u12 u13 u14 u15 u16 u17 u18 u19 u20 u21 u22 u23 u24 u25 u26 : Value), p ≤ N ∧ RunIn own0 w0 own w' xb I mbs lbs (σ p) AW cW AL cL ∧ a' = { tmps := #[.pointer (some ⟨xb, 0, none⟩), .int .i64 most, undef, undef, .int .i64 p, .bool false, u6, u7, u8, u9, u10, u11, u12, u13, u14, u15, u16, u17, u18, u19, u20, u21, u22, u23, u24, u25, u26], defers := [] }
set_option maxHeartbeats 4000000 in
theorem schedFinish_any {own0 : Nat → Nat} {w : World} {xb : Nat} {I : InC} {mbs lbs : List Nat} {AW : Option Addr} {cW : Nat} {AL : Option Addr} {cL : Nat} (σ : Nat → WS) (N most n : Nat) (h : WorldIn own0 w xb I mbs lbs (σ 0).mss (σ 0).lss AW cW AL cL (σ 0).cnt) (hn : mbs.length = n) (hn1 : 1 ≤ n) (hn64 : n ≤ 64) (hNm : N ≤ most) (hm9 : most ≤ 1000000000) (hd : ∀ p, p < N → doneB (σ p).mss = false) (hdN : doneB (σ N).mss = true)
    (hp : ∀ p own W, p < N → WorldIn own W xb I mbs lbs (σ p).mss (σ p).lss AW cW AL cL (σ p).cnt → Calls Tryz.prog 71 #[.pointer (some ⟨xb, 0, none⟩), .int .i64 (p % n : Nat)] W fun e w' => ∃ r, e = .returned (.bool r) ∧ ∃ own', WorldIn own' w' xb I mbs lbs (σ (p + 1)).mss (σ (p + 1)).lss AW cW AL cL (σ (p + 1)).cnt ∧ (∀ i, own' i ≠ 0 → own i ≠ 0 ∨ W.heap.size ≤ i) ∧ But (fun i => own i ≠ 0) W w') :
    Calls Tryz.prog 19 #[.pointer (some ⟨xb, 0, none⟩), .int .i64 most] w fun e w' => e = .returned (.tuple #[.int .i64 N, .bool true]) ∧ ∃ own, RunIn own0 w own w' xb I mbs lbs (σ N) AW cW AL cL := by
  have HW := Lib.hid h
  have HN := Lib.hid hn
  have HD := Lib.hid hd
  have HDN := Lib.hid hdN
  have HP := Lib.hid hp
  clear h hn hd hdN hp
  go_enter Tryz.func19, Tryz.ntmps19
  go_wp2_with fail
  refine wp_scope_jumps 0 (FinJ own0 w xb I mbs lbs σ AW cW AL cL N most) (fun a' _ => N - (intOf (a'.tmps.getD 4 undef)).toNat) rfl ?_ ?_
  · go_wp2_with fail
    go_step3
    have hR : RunIn own0 w own0 w xb I mbs lbs (σ 0) AW cW AL cL := ⟨HW.out, fun i hi => .inl hi, But.refl _ _⟩
    obtain ⟨p, hp0⟩ : ∃ p, p = 0 := ⟨0, rfl⟩
    obtain ⟨own, hown⟩ : ∃ own, own = own0 := ⟨_, rfl⟩
    have hpN : p ≤ N := by omega
    have hR' : RunIn own0 w own w xb I mbs lbs (σ p) AW cW AL cL := by rw [hown, hp0]; exact hR
    rw [show (Value.int IntKind.i64 0) = .int .i64 (p : Int) by rw [hp0]; rfl]
    clear hR
    have hR := hR'
    clear hR' hp0 hown
    have HRr := Lib.hid hR
    have HDO := Lib.hid (schedDone_any hR.wld n HN.out hn64)
    clear hR
    go_wp2_with fail
    ((with_reducible refine HDO.out.mono ?_); rintro e w1 ⟨rfl, hb1⟩)
    have HR1 := Lib.hid (HRr.out.below hb1)
    clear hb1 HDO
    rcases Nat.lt_or_eq_of_le hpN with hlt | heq
    · have e1 := HD.out p hlt
      rw [e1]
      have e2 : decide ((most : Int) ≤ (p : Int)) = false := decide_eq_false (by omega)
      have e3 : decide (most ≤ p) = false := decide_eq_false (by omega)
      have x0 : w1.cell? ⟨xb, 0, none⟩ = some (.slice AW n cW) := by have := HR1.out.wld.blk.cell 0; rw [HN.out] at this; exact this
      have xl := HR1.out.wld.blk.lt
      obtain ⟨y, hy⟩ : ∃ y, p % n = y := ⟨_, rfl⟩
      have hm : (p : Int) % (n : Int) = (y : Int) := by rw [← hy]; exact (Int.natCast_emod p n).symm
      have nz : ¬ (n : Int) = 0 := by omega
      have HPK := Lib.hid (HP.out p own w1 hlt HR1.out.wld)
      rw [hy] at HPK
      clear e1 hy
      go_wp2_with fail
      ((with_reducible refine HPK.out.mono ?_); rintro e w2 ⟨r, rfl, own', hW2, hn2, hb2⟩)
      have HR2 := Lib.hid (HR1.out.step (s' := σ (p + 1)) hW2 hn2 hb2)
      obtain ⟨p2, hp2⟩ : ∃ p2, p + 1 = p2 := ⟨_, rfl⟩
      have hwp : IntKind.i64.wrap ((p : Int) + 1) = (p2 : Int) := by rw [show (p : Int) + 1 = (p2 : Int) by omega]; exact IntWalk.i64_in _ (by omega)
      have HP2 := Lib.hid hp2
      clear hW2 hn2 hb2 hp2 x0 xl HPK
      go_wp2_with fail
      go_step3
      refine ⟨rfl, ?_⟩
      have hr := HR2.out
      rw [HP2.out] at hr
      exact ⟨p2, own', _, _, _, _, _, _, _, _, _, _, _, _, _, _, _, _, _, _, _, _, _, by have := HP2.out; omega, hr, rfl⟩
    · subst heq
      rw [HDN.out]
      have HDO2 := Lib.hid (schedDone_any HR1.out.wld n HN.out hn64)
      go_wp2_with fail
      ((with_reducible refine HDO2.out.mono ?_); rintro e w2 ⟨rfl, hb2⟩)
      rw [HDN.out]
      have HR2 := Lib.hid (HR1.out.below hb2)
      clear hb2
      go_wp2_with fail
      simp only [Exit.jump]
      go_ret2
      exact ⟨rfl, own, HR2.out⟩
  · rintro a' wr ⟨p, own, u6, u7, u8, u9, u10, u11, u12, u13, u14, u15, u16, u17, u18, u19, u20, u21, u22, u23, u24, u25, u26, hpN, hR, rfl⟩
    have HRr := Lib.hid hR
    have HDO := Lib.hid (schedDone_any hR.wld n HN.out hn64)
    clear hR
    go_wp2_with fail
    ((with_reducible refine HDO.out.mono ?_); rintro e w1 ⟨rfl, hb1⟩)
    have HR1 := Lib.hid (HRr.out.below hb1)
    clear hb1 HDO
    rcases Nat.lt_or_eq_of_le hpN with hlt | heq
    · have e1 := HD.out p hlt
      rw [e1]
      have e2 : decide ((most : Int) ≤ (p : Int)) = false := decide_eq_false (by omega)
      have e3 : decide (most ≤ p) = false := decide_eq_false (by omega)
      have x0 : w1.cell? ⟨xb, 0, none⟩ = some (.slice AW n cW) := by have := HR1.out.wld.blk.cell 0; rw [HN.out] at this; exact this
      have xl := HR1.out.wld.blk.lt
      obtain ⟨y, hy⟩ : ∃ y, p % n = y := ⟨_, rfl⟩
      have hm : (p : Int) % (n : Int) = (y : Int) := by rw [← hy]; exact (Int.natCast_emod p n).symm
      have nz : ¬ (n : Int) = 0 := by omega
      have HPK := Lib.hid (HP.out p own w1 hlt HR1.out.wld)
      rw [hy] at HPK
      clear e1 hy
      go_wp2_with fail
      ((with_reducible refine HPK.out.mono ?_); rintro e w2 ⟨r, rfl, own', hW2, hn2, hb2⟩)
      have HR2 := Lib.hid (HR1.out.step (s' := σ (p + 1)) hW2 hn2 hb2)
      obtain ⟨p2, hp2⟩ : ∃ p2, p + 1 = p2 := ⟨_, rfl⟩
      have hwp : IntKind.i64.wrap ((p : Int) + 1) = (p2 : Int) := by rw [show (p : Int) + 1 = (p2 : Int) by omega]; exact IntWalk.i64_in _ (by omega)
      have HP2 := Lib.hid hp2
      clear hW2 hn2 hb2 hp2 x0 xl HPK
      go_wp2_with fail
      go_step3
      refine ⟨rfl, ?_, ?_⟩
      rotate_left
      · simp [intOf]
        have := HP2.out
        omega
      have hr := HR2.out
      rw [HP2.out] at hr
      exact ⟨p2, own', _, _, _, _, _, _, _, _, _, _, _, _, _, _, _, _, _, _, _, _, _, by have := HP2.out; omega, hr, rfl⟩
    · subst heq
      rw [HDN.out]
      have HDO2 := Lib.hid (schedDone_any HR1.out.wld n HN.out hn64)
      go_wp2_with fail
      ((with_reducible refine HDO2.out.mono ?_); rintro e w2 ⟨rfl, hb2⟩)
      rw [HDN.out]
      have HR2 := Lib.hid (HR1.out.below hb2)
      clear hb2
      go_wp2_with fail
      simp only [Exit.jump]
      go_ret2
      exact ⟨rfl, own, HR2.out⟩
end
section
open Go.RowKit
def TrajRet (w : World) (NP : Nat) (r : List (List Int × List Int)) (e : Ending) (w' : World) : Prop :=
  ∃ A c l, l.length = r.length ∧ e = .returned (.slice A r.length c) ∧ w'.ownsRow w.heap.size 92 2 (.slice A r.length c) r.length (stv NP NP l) ∧ OwnS w' w.heap.size NP NP l (recF r) ∧ Below w.heap.size w w'
set_option maxHeartbeats 4000000 in
theorem machTraj_any (F : Nat → Prop) (mb : Nat) (K : MC) (s : MS) (a : MA) (w : World) (hK : K.Ok) (h : MachIn F w mb K s a) (hlen : ∀ i, i < s.rcd.length → (recF s.rcd (i + 1)).1.length = K.NP ∧ (recF s.rcd (i + 1)).2.length = K.NP) :
    Calls Tryz.prog 56 #[.pointer (some ⟨mb, 0, none⟩)] w (TrajRet w K.NP s.rcd) := by
  obtain ⟨n, hn⟩ : ∃ n, s.rcd.length = n := ⟨_, rfl⟩
  have hrl := h.rl
  have m14 : w.cell? ⟨mb, 14, none⟩ = some (.slice a.AR n a.cR) := by rw [← hn]; exact h.blk.cell 14
  have ml := h.blk.lt
  have hR := Rd.of_own h.rrow
  have hS := h.fz.here.rsr
  have hSL := h.fz.here.rsl
  rw [hn] at hR hSL hlen hrl
  have HR := Lib.hid hR
  have HS := Lib.hid hS
  have HSL := Lib.hid hSL
  have HN := Lib.hid hn
  have HLEN := Lib.hid hlen
  have HNP := Lib.hid hK.np
  clear h hR hS hSL hn hlen hK
  go_enter Tryz.func56, Tryz.ntmps56
  go_wp2_with fail
  clear m14 ml
  go_loopw [3, 13] (fun o v wr => ∃ (i : Nat) (A : Option Addr) (c : Nat) (l : List StS), i ≤ n ∧ o = .slice A i c ∧ v = .int .i64 i ∧ wr.ownsRow w.heap.size 92 2 (.slice A i c) i (stv K.NP K.NP l) ∧ l.length = i ∧ OwnS wr w.heap.size K.NP K.NP l (recF s.rcd) ∧ Below w.heap.size w wr) (fun _ v _ => n - (intOf v).toNat)
  case atStart => exact ⟨0, none, 0, [], by omega, rfl, rfl, World.ownsRow_nil _ _ _ _, rfl, fun i s h => by simp at h, Below.refl _ _⟩
  case round =>
    obtain ⟨i, A, c, l, hi, rfl, rfl, hz, hll, hos, hb⟩ := hrel
    by_cases hlt : i < n
    · obtain ⟨⟨A1, c1, A2, c2⟩, hs4⟩ : ∃ s, a.rs[i]? = some s := ⟨_, List.getElem?_eq_getElem (by rw [HSL.out]; exact hlt)⟩
      obtain ⟨b5, o5, hA5, l5, q0, q1⟩ := stv_rd (HR.out.below hb) hs4 hlt
      dsimp only at q0 q1
      obtain ⟨h1, h2⟩ := HS.out i _ hs4
      obtain ⟨e1, e2⟩ := HLEN.out i hlt
      have HZ := Lib.hid hz
      have HLL := Lib.hid hll
      have HOS := Lib.hid hos
      have HB := Lib.hid hb
      have HX1 := Lib.hid h1
      have HX2 := Lib.hid h2
      have HE1 := Lib.hid e1
      have HE2 := Lib.hid e2
      have HLT := Lib.hid hlt
      have HAR := Lib.hid hA5
      have r1 : (0 : Int) ≤ (i : Int) := by omega
      have r2 : (i : Int) < (n : Int) := by omega
      clear hz hll hos hb h1 h2 e1 e2 hs4 hlt hA5
      rw [HAR.out]
      go_wp2_with fail
      have hwr : Below w.heap.size w (wr.alloc (.cells #[.slice A1 K.NP c1, .slice A2 K.NP c2] 92)) := HB.out.alloc HB.out.size _
      have ho1 := OwnS.below (w' := wr.alloc (.cells #[.slice A1 K.NP c1, .slice A2 K.NP c2] 92)) HOS.out ((Below.refl wr.heap.size wr).alloc (Nat.le_refl _) _)
      have hz1 : (wr.alloc (.cells #[.slice A1 K.NP c1, .slice A2 K.NP c2] 92)).ownsRow w.heap.size 92 2 (.slice A i c) i (stv K.NP K.NP l) := own_below HZ.out ((Below.refl wr.heap.size wr).alloc (Nat.le_refl _) _)
      obtain ⟨w1, hw1⟩ : ∃ w1, wr.alloc (.cells #[.slice A1 K.NP c1, .slice A2 K.NP c2] 92) = w1 := ⟨_, rfl⟩
      rw [hw1] at hwr ho1 hz1 ⊢
      have HC := Lib.hid (sgdClone_any A1 A2 K.NP K.NP c1 c2 _ _ w1 HE1.out HE2.out (Rd.of_own (own_below HX1.out hwr)) (Rd.of_own (own_below HX2.out hwr)) (by have := HNP.out; omega) (by have := HNP.out; omega))
      have HW1 := Lib.hid hwr
      have HO1 := Lib.hid ho1
      have HZ1 := Lib.hid hz1
      clear hw1 hwr ho1 hz1
      ((with_reducible refine HC.out.mono ?_); rintro e w2 ⟨AP, cP, AM, cM, rfl, hp2, hm2, hpm, hb2⟩)
      have hb2' : Below w1.heap.size w1 w2 := hb2
      have hp2' : w2.ownsRow w1.heap.size 2 1 (.slice AP K.NP cP) K.NP (iv (recF s.rcd (i + 1)).1) := hp2
      have hm2' : w2.ownsRow w1.heap.size 2 1 (.slice AM K.NP cM) K.NP (iv (recF s.rcd (i + 1)).2) := hm2
      have HW2 := Lib.hid (HW1.out.trans (hb2'.mono HW1.out.size))
      have HO2 := Lib.hid (HO1.out.below hb2')
      have HZ2 := Lib.hid (own_below HZ1.out hb2')
      have HP2 := Lib.hid (own_base hp2' HW1.out.size)
      have HQ2 := Lib.hid (own_base hm2' HW1.out.size)
      clear hp2 hm2 hpm hb2 hb2' hp2' hm2' HC
      go_wp2_with (at_builtin; go_must (refine wpList_pushL slState rfl _ _ rfl w.heap.size (.slice A i c) i (stv K.NP K.NP l) rfl HZ2.out #[.slice AP K.NP cP, .slice AM K.NP cM] w2.heap.size rfl rfl rfl (by intro u hu; simp at hu; rcases hu with rfl | rfl <;> rfl) (by unfold maxLen; omega) (by omega) HW2.out.size ?_); go_must (intro A' c' wa hown' hb' hgr' hat'))
      have hlt := HLT.out
      refine ⟨⟨i + 1, A', c', l ++ [(AP, cP, AM, cM)], by omega, rfl, rfl, ?_, by rw [List.length_append, HLL.out]; rfl, ?_, HW2.out.trans hb'⟩, ?_⟩
      · have : stv K.NP K.NP (l ++ [(AP, cP, AM, cM)]) = stv K.NP K.NP l ++ #[Value.slice AP K.NP cP, Value.slice AM K.NP cM].toList := by simp [stv]
        rw [this]
        exact hown'
      · refine OwnS.snoc (HO2.out.row HZ2.out (by decide) hgr') ?_ ?_
        · rw [HLL.out]
          exact HP2.out.kept hgr' (lnk_own_none HP2.out HZ2.out (by decide))
        · rw [HLL.out]
          exact HQ2.out.kept hgr' (lnk_own_none HQ2.out HZ2.out (by decide))
      · simp [intOf]
        omega
    · obtain rfl : i = n := by omega
      have HZ := Lib.hid hz
      have HLL := Lib.hid hll
      have HOS := Lib.hid hos
      have HB := Lib.hid hb
      have r2 : ¬ (i : Int) < (i : Int) := by omega
      clear hz hll hos hb hlt
      go_wp2_with fail
      go_ret
      exact ⟨A, c, l, by rw [HLL.out, HN.out], by rw [HN.out]; rfl, by rw [HN.out]; exact HZ.out, HOS.out, HB.out⟩
end
section
open Go.RowKit
set_option maxHeartbeats 2000000 in
theorem schedTraj_any {own : Nat → Nat} {w : World} {xb : Nat} {I : InC} {mbs lbs : List Nat} {mss : List MS} {lss : List LS} {AW : Option Addr} {cW : Nat} {AL : Option Addr} {cL cnt : Nat} (h : WorldIn own w xb I mbs lbs mss lss AW cW AL cL cnt) (hO : I.Ok) (n x : Nat) (s : MS) (hn : mbs.length = n) (hl : lbs.length = n) (hx : x < n) (hn64 : n ≤ 64) (hxw : (x : Int) < I.c.wk) (hs : mss[x]? = some s) (hlen : ∀ i, i < s.rcd.length → (recF s.rcd (i + 1)).1.length = (I.mc x).NP ∧ (recF s.rcd (i + 1)).2.length = (I.mc x).NP) :
    Calls Tryz.prog 32 #[.pointer (some ⟨xb, 0, none⟩), .int .i64 x] w (TrajRet w (I.mc x).NP s.rcd) := by
  obtain ⟨b, hb⟩ : ∃ b, mbs[x]? = some b := ⟨_, List.getElem?_eq_getElem (by omega)⟩
  obtain ⟨li, hli⟩ : ∃ b, lbs[(x + n - 1) % n]? = some b := ⟨_, List.getElem?_eq_getElem (by rw [hl]; exact Nat.mod_lt _ (by omega))⟩
  obtain ⟨lo, hlo⟩ : ∃ b, lbs[x]? = some b := ⟨_, List.getElem?_eq_getElem (by omega)⟩
  have HAT := Lib.hid (schedAt_any h n x b li lo hn hl hx hn64 hb hli hlo)
  have HP := Lib.hid (h.parts.mach x b s hb hs)
  have HK := Lib.hid (hO.mc hxw)
  have HLEN := Lib.hid hlen
  have hme := invokeTrajectory b
  obtain ⟨K, hK⟩ : ∃ K, I.mc x = K := ⟨_, rfl⟩
  rw [hK] at HP HK HLEN ⊢
  clear h hO hn hl hx hn64 hxw hs hb hli hlo hlen hK
  go_enter Tryz.func32, Tryz.ntmps32
  go_wp2_with fail
  ((with_reducible refine HAT.out.mono ?_); rintro e w1 ⟨rfl, hb1⟩)
  have HB1 := Lib.hid hb1
  obtain ⟨F, a, hM, -, -⟩ := HP.out.step hb1.size (fun i hi _ => hb1.block i hi)
  have HC := Lib.hid (machTraj_any F b K s a w1 HK.out hM HLEN.out)
  clear hb1 hM
  go_wp2_with fail
  ((with_reducible refine HC.out.mono ?_); rintro e w2 ⟨A, c, l, hll, rfl, ho, hos, hb2⟩)
  have HO := Lib.hid ho
  have HOS := Lib.hid hos
  have HB2 := Lib.hid hb2
  have HLL := Lib.hid hll
  clear ho hos hb2 hll hme
  go_wp2_with fail
  go_ret
  exact ⟨A, c, l, HLL.out, rfl, own_base HO.out HB1.out.size, HOS.out.base HB1.out.size, HB1.out.trans (HB2.out.mono HB1.out.size)⟩
end
section
open Go.RowKit
def itemB (K : MC) (x : RItem) : Bool :=
  decide (0 ≤ x.1.2.1) && decide (x.1.2.1 ≤ 1000000) && (!decide (x.1.1 = 1) || (decide (-1000 ≤ x.1.2.2) && decide (x.1.2.2 ≤ 1000))) && (!decide (x.1.1 = 5) || (decide (0 ≤ x.1.2.2) && decide (x.1.2.2.toNat < K.pc.nb))) &&
  (!(decide (x.1.1 = 3) || decide (x.1.1 = 4)) || (decide (0 ≤ x.2.2.2.1) && decide (x.2.2.2.1 ≤ x.2.2.2.2) && decide (x.2.2.2.2 ≤ K.NP)))
theorem itemB_ok {K : MC} {x : RItem} (h : itemB K x = true) : ItemOk K x := by
  simp only [itemB, Bool.and_eq_true, decide_eq_true_eq, Bool.or_eq_true, Bool.not_eq_true', decide_eq_false_iff_not, Bool.or_eq_false_iff] at h
  obtain ⟨⟨⟨⟨h1, h2⟩, h3⟩, h4⟩, h5⟩ := h
  refine ⟨⟨h1, h2⟩, fun e => ?_, fun e => ?_, fun e => ?_⟩
  · rcases h3 with h | h
    · exact absurd e h
    · exact h
  · rcases h4 with h | h
    · exact absurd e h
    · exact ⟨x.1.2.2.toNat, by omega, h.2⟩
  · rcases h5 with h | ⟨⟨h6, h7⟩, h8⟩
    · rcases e with e | e
      · exact absurd e h.1
      · exact absurd e h.2
    · exact ⟨x.2.2.2.1.toNat, x.2.2.2.2.toNat, by omega, by omega, by omega, by omega⟩
def smallB (s : MS) : Bool := decide (s.cnt < 1000000000000) && decide (s.opn.length < 1000000) && decide (s.rcd.length < 1000)
theorem smallB_ok {s : MS} (h : smallB s = true) : s.Small := by
  simp only [smallB, Bool.and_eq_true, decide_eq_true_eq] at h
  exact ⟨h.1.1, h.1.2, h.2⟩
def stepW (I : InC) (n x : Nat) (s : WS) : WS :=
  match s.mss[x]? with
  | none => s
  | some m =>
    match m.its[m.nx]? with
    | none => s
    | some it =>
      if it.1.1 = 3 then
        match s.lss[x]? with
        | none => s
        | some l => ⟨s.mss.set x (nextMS (I.mc x) m it.1.2.1), s.lss.set x ⟨l.s + 1, l.r, l.q ++ [(it.2.2.1, pcL m.G it.2.2.2.1.toNat (it.2.2.2.2 - it.2.2.2.1).toNat)]⟩, s.cnt + 1⟩
      else if it.1.1 = 4 then
        match s.lss[(x + n - 1) % n]? with
        | none => s
        | some l =>
          match l.q with
          | [] => s
          | (_, vs) :: q => ⟨s.mss.set x (nextMS (I.mc x) { m with G := recvG it.2.1.2 m.G it.2.2.2.1.toNat (it.2.2.2.2 - it.2.2.2.1).toNat vs } it.1.2.1), s.lss.set ((x + n - 1) % n) ⟨l.s, l.r + 1, q⟩, s.cnt + 1⟩
      else ⟨s.mss.set x (nextMS (I.mc x) (workMS (I.mc x) m it) it.1.2.1), s.lss, s.cnt + 1⟩
def pickB (I : InC) (n x : Nat) (s : WS) : Bool :=
  match s.mss[x]? with
  | none => false
  | some m =>
    match m.its[m.nx]? with
    | none => false
    | some it =>
      itemB (I.mc x) it && (smallB m && (decide (s.cnt < 1000000000000) &&
      (if it.1.1 = 3 then
        match s.lss[x]? with
        | none => false
        | some l => decide (l.s - l.r < I.c.ca.toNat) && decide (l.s < 1000000000)
      else if it.1.1 = 4 then
        match s.lss[(x + n - 1) % n]? with
        | none => false
        | some l =>
          match l.q with
          | [] => false
          | (t, vs) :: _ => decide (t = it.2.2.1) && decide (vs.length = (it.2.2.2.2 - it.2.2.2.1).toNat)
      else decide (it.1.1 = 1) || (decide (it.1.1 = 2) || (decide (it.1.1 = 5) || decide (it.1.1 = 6))))))
theorem pick_step {own : Nat → Nat} {W : World} {xb : Nat} {I : InC} {mbs lbs : List Nat} {s : WS} {AW : Option Addr} {cW : Nat} {AL : Option Addr} {cL : Nat} (h : WorldIn own W xb I mbs lbs s.mss s.lss AW cW AL cL s.cnt) (hO : I.Ok) (n x : Nat) (hn : mbs.length = n) (hl : lbs.length = n) (hx : x < n) (hn64 : n ≤ 64) (hxw : (x : Int) < I.c.wk) (hB : pickB I n x s = true) :
    Calls Tryz.prog 71 #[.pointer (some ⟨xb, 0, none⟩), .int .i64 x] W fun e w' => ∃ r, e = .returned (.bool r) ∧ ∃ own', WorldIn own' w' xb I mbs lbs (stepW I n x s).mss (stepW I n x s).lss AW cW AL cL (stepW I n x s).cnt ∧ (∀ i, own' i ≠ 0 → own i ≠ 0 ∨ W.heap.size ≤ i) ∧ But (fun i => own i ≠ 0) W w' := by
  unfold pickB at hB
  unfold stepW
  split at hB
  · cases hB
  · rename_i m hm
    split at hB
    · cases hB
    · rename_i it hit
      simp only [Bool.and_eq_true, decide_eq_true_eq] at hB
      obtain ⟨h1, h2, h3, h4⟩ := hB
      (try simp only [hm, hit])
      by_cases e3 : it.1.1 = 3
      · rw [if_pos e3] at h4 ⊢
        split at h4
        · cases h4
        · rename_i l hl'
          simp only [Bool.and_eq_true, decide_eq_true_eq] at h4
          (try simp only [hl'])
          refine (schedPick_send h hO n x m l it hn hl hx hn64 hxw h3 hm hl' hit e3 (itemB_ok h1) (smallB_ok h2) h4.1 h4.2).mono ?_
          rintro e w' ⟨e1, own', hw, hnw, hb⟩
          exact ⟨true, e1, own', hw, hnw, hb⟩
      · rw [if_neg e3] at h4 ⊢
        by_cases e4 : it.1.1 = 4
        · rw [if_pos e4] at h4 ⊢
          split at h4
          · cases h4
          · rename_i l hl'
            (try simp only [hl'])
            split at h4
            · cases h4
            · rename_i t vs q hq
              simp only [Bool.and_eq_true, decide_eq_true_eq] at h4
              obtain ⟨ht, hv⟩ := h4
              subst ht
              (try simp only [hq])
              refine (schedPick_recv h hO n x _ m l it vs q hn hl hx hn64 hxw h3 hm rfl hl' hit e4 (itemB_ok h1) (smallB_ok h2) hq hv).mono ?_
              rintro e w' ⟨e1, own', hw, hnw, hb⟩
              exact ⟨true, e1, own', hw, hnw, hb⟩
        · rw [if_neg e4] at h4 ⊢
          simp only [Bool.or_eq_true, decide_eq_true_eq] at h4
          refine (schedPick_own h hO n x m it hn hl hx hn64 hxw h3 hm hit h4 (itemB_ok h1) (smallB_ok h2)).mono ?_
          rintro e w' ⟨e1, own', hw, hnw, hb⟩
          exact ⟨true, e1, own', hw, hnw, hb⟩
def startW (I : InC) (n : Nat) : WS := ⟨startL I n, startK n, 0⟩
end
end Go.Proofs.YtkmaeipoaoikpaaGreat
