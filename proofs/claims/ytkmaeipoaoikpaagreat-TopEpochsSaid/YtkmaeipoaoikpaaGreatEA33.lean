/-
  Lemmas and contracts (33): PlanMeth2, MNew1, MNew2.
-/
import Derived.WalkKit
import Derived.WalkSpells
import Derived.WalkLawsBesides
import Derived.Lib.Hide
import Derived.Deep.QuietTactic
import Derived.BigQuiet
import Derived.IntWalk
import Derived.Deep.RegionHeld3
import Derived.Maps.AppendAt
import Derived.ProofKit
import Derived.OpenShut
import Derived.Deep.Slices
import Derived.Deep.Fields
import Derived.Test.YtkmaeipoaoikpaaGreatProg
import Derived.Laws.OwnMore
import Derived.Deep.Draws
import Derived.Laws.Rows
import Derived.Laws.EntriesVeiled
import Derived.RangeFuncNested
import Derived.RangeFuncBox
import Derived.RangeFuncLeaves
import Derived.Shelf.Abstract
import Derived.OwnWalkIn
import Derived.TacticsInMore
import Derived.LoopNIn
import Derived.LoopIn
import Derived.StillTail
import Derived.OrdersIn
import Derived.RangeFuncCalls
import Derived.OrdersHeld
import Derived.Laws.Bits64
import Derived.Deep.DeepMust
import Derived.Deep.DeepCutAuto
import Derived.BigRegion
import Derived.Laws.BitsAllLaws
import Derived.Test.YtkmaeipoaoikpaaGreatShelf
import Derived.SizedLaws
import Derived.Deep.OwnRows
import Derived.Laws.CopyOwn
import Derived.RangeFuncFrom
import Derived.OwnWalk
import Derived.WalkMore
import Derived.Maps.Own
import Derived.Maps.Views
import Derived.Maps.Keyed
import Derived.Maps.OwnOps
import Derived.Maps.Ext
import Derived.Carry
import Derived.Test.YtkmaeipoaoikpaaGreatEA01
import Derived.Test.YtkmaeipoaoikpaaGreatEA02
import Derived.Test.YtkmaeipoaoikpaaGreatEA03
import Derived.Test.YtkmaeipoaoikpaaGreatEA04
import Derived.Test.YtkmaeipoaoikpaaGreatEA05
import Derived.Test.YtkmaeipoaoikpaaGreatEA06
import Derived.Test.YtkmaeipoaoikpaaGreatEA07
import Derived.Test.YtkmaeipoaoikpaaGreatEA08
import Derived.Test.YtkmaeipoaoikpaaGreatEA09
import Derived.Test.YtkmaeipoaoikpaaGreatEA10
import Derived.Test.YtkmaeipoaoikpaaGreatEA11
import Derived.Test.YtkmaeipoaoikpaaGreatEA12
import Derived.Test.YtkmaeipoaoikpaaGreatEA13
import Derived.Test.YtkmaeipoaoikpaaGreatEA14
import Derived.Test.YtkmaeipoaoikpaaGreatEA15
import Derived.Test.YtkmaeipoaoikpaaGreatEA16
import Derived.Test.YtkmaeipoaoikpaaGreatEA17
import Derived.Test.YtkmaeipoaoikpaaGreatEA18
import Derived.Test.YtkmaeipoaoikpaaGreatEA19
import Derived.Test.YtkmaeipoaoikpaaGreatEA20
import Derived.Test.YtkmaeipoaoikpaaGreatEA21
import Derived.Test.YtkmaeipoaoikpaaGreatEA22
import Derived.Test.YtkmaeipoaoikpaaGreatEA23
import Derived.Test.YtkmaeipoaoikpaaGreatEA24
import Derived.Test.YtkmaeipoaoikpaaGreatEA25
import Derived.Test.YtkmaeipoaoikpaaGreatEA26
import Derived.Test.YtkmaeipoaoikpaaGreatEA27
import Derived.Test.YtkmaeipoaoikpaaGreatEA28
import Derived.Test.YtkmaeipoaoikpaaGreatEA29
import Derived.Test.YtkmaeipoaoikpaaGreatEA30
import Derived.Test.YtkmaeipoaoikpaaGreatEA31
import Derived.Test.YtkmaeipoaoikpaaGreatEA32
namespace Go.Proofs.YtkmaeipoaoikpaaGreat
set_option linter.unusedVariables false
set_option linter.unusedSimpArgs false
set_option maxRecDepth 100000
section
open Go.RowKit
theorem rv_ones (l : List (Int × Int)) : ∀ u ∈ rv l, u.oneCell' = true := fun u h => rv_one u l h
set_option maxHeartbeats 400000 in
theorem cloneR_any (A : Option Addr) (n cap : Nat) (l : List (Int × Int)) (w : World) (hl : l.length = n) (h : Rd w 2 A n (rv l)) (hn : n ≤ 1000000) :
    Calls Tryz.prog 111 #[.slice A n cap] w (OwnRet w 218 2 n (rv l)) := by
  have HR := Lib.hid h
  have HL := Lib.hid hl
  have hq := fun (w : World) (a : Option Addr) (n c : Nat) => Lib.run_eql_slice_nil (P := Tryz.prog) w 113 218 a n c 0 0 Tryz.underlying113
  clear h hl
  cases A with
  | none =>
    have hn0 : n = 0 := by
      rcases Nat.eq_zero_or_pos n with h0 | h0
      · exact h0
      · obtain ⟨b, o, h, _⟩ := HR.out.2 h0; cases h
    subst hn0
    have hl0 : l = [] := List.eq_nil_of_length_eq_zero HL.out
    subst hl0
    go_enter Tryz.func111, Tryz.ntmps111
    go_wp2
    go_ret
    exact ⟨none, 0, rfl, by simpa [rv] using World.ownsRow_nil _ _ _ _, Below.refl _ _⟩
  | some ad =>
    go_enter Tryz.func111, Tryz.ntmps111
    go_wp2_with (at_builtin; go_must (refine wpList_appendAll slPart rfl _ _ rfl w.heap.size _ 0 [] rfl (World.ownsRow_lit w #[] 0 (Nat.le_refl _) (by unfold maxLen; omega) rfl) (some ad) n cap (rv l) rfl (HR.out.alloc _) (rv_ones l) (by unfold maxLen; omega) (by omega) (by simp) ?_); intro A' cap' w1 hown1 hb1)
    go_ret
    exact ⟨A', cap', by simp, by simpa using hown1, ((Below.refl _ _).alloc (Nat.le_refl _) _).trans hb1⟩
end
section
open Go.RowKit
variable (pc : PlC) (c : Cfg) (A : Option Addr) (n cap b : Nat) (x t i : Int) (w : World)
theorem planBuckets_any (hp : pc.Ok) (h : PlanAt w b pc c A n cap) :
    Calls Tryz.prog 44 #[.pointer (some ⟨b, 0, none⟩)] w (OwnRet w 218 2 pc.nb (rv pc.bks)) := by
  obtain ⟨Ab, cb, Ag, cg, Al, cl, h1, h2, h3, h4, _⟩ := h
  have c12 : w.cell? ⟨b, 12, none⟩ = some (.slice Ab pc.nb cb) := h1.cell 12
  have lb := h1.lt
  have HC := Lib.hid (cloneR_any Ab pc.nb cb pc.bks w pc.bks_length h2 (by have := PlC.nb_le hp; omega))
  clear h1 h2 h3 h4 hp
  go_enter Tryz.func44, Tryz.ntmps44
  go_wp2_with fail
  ((with_reducible refine HC.out.mono ?_); rintro e w1 ⟨A1, c1, rfl, hown, hb⟩)
  have HO := Lib.hid (And.intro hown hb)
  clear hown hb
  go_wp2_with fail
  go_ret
  exact ⟨A1, c1, rfl, HO.out.1, HO.out.2⟩
end
section
open Go.RowKit
def InC.its (I : InC) (x : Nat) : List RItem := (I.mc x).pc.stepI (I.mc x).st x 0
def startMS (I : InC) (x : Nat) : MS := ⟨I.P0, zeros I.P, zeros I.P, [(I.P0, zeros I.P)], I.its x, 0, 0, []⟩
end
section
open Go.RowKit
variable (I : InC) (x bs smb plb : Nat) (B : Nat) (F : Nat → Prop)
def X8 (w : World) (S : Option Addr) (c : Nat) (l : List StS) : Prop := l.length = I.m ∧ Hg F w (fun W => W.ownsRow 0 162 2 (.slice S I.m c) I.m (stv I.N I.M l) ∧ OwnS W 0 I.N I.M l I.f)
def X12 (w : World) (A : Option Addr) (c : Nat) : Prop := Hg F w (fun W => W.ownsRow 0 218 2 (.slice A (I.mc x).pc.nb c) (I.mc x).pc.nb (rv (I.mc x).pc.bks))
def X24 (w : World) (g : Nat) : Prop := B ≤ g ∧ ¬ F g ∧ w.ownsRow 0 2 1 (.slice (some ⟨g, 0, none⟩) I.P I.P) I.P (iv (zeros I.P))
def X26 (w : World) (y : StS) : Prop := Hg F w (fun W => OwnS W 0 I.P I.P [y] (recF [(I.P0, zeros I.P)]))
def X27 (w : World) (g : Nat) (y : StS) : Prop := B ≤ g ∧ ¬ F g ∧ w.ownsRow 0 92 2 (.slice (some ⟨g, 0, none⟩) 1 1) 1 (stv I.P I.P [y])
def X30 (w : World) (A : Option Addr) (c : Nat) : Prop := Hg F w (fun W => W.ownsRow 0 222 12 (.slice A (I.its x).length c) (I.its x).length (itemsV (I.its x)))
def NewV (sP sM : Value) (j : Nat) (v : Value) (w : World) : Prop :=
  (j = 8 → ∃ S c l, v = .slice S I.m c ∧ X8 I F w S c l) ∧
  (j = 12 → ∃ A c, v = .slice A (I.mc x).pc.nb c ∧ X12 I x F w A c) ∧
  (j = 20 → ∃ S c l A d, v = .agg #[.int .i64 x, .int .i64 I.c.wk, .int .i64 I.c.mi, .pointer (some ⟨bs, 0, none⟩), .slice S I.m c, .pointer (some ⟨smb, 0, none⟩), .pointer (some ⟨plb, 0, none⟩), .slice A (I.mc x).pc.nb d, .int .i64 I.c.ra, .int .i64 I.c.mo, .int .i64 I.c.sh] ∧ X8 I F w S c l ∧ X12 I x F w A d) ∧
  (j = 23 → v = .int .i64 I.P) ∧
  (j = 24 → ∃ g, v = .slice (some ⟨g, 0, none⟩) I.P I.P ∧ X24 I B F w g) ∧
  (j = 26 → ∃ y : StS, v = .agg #[.slice y.1 I.P y.2.1, .slice y.2.2.1 I.P y.2.2.2] ∧ X26 I F w y) ∧
  (j = 27 → ∃ g y, v = .slice (some ⟨g, 0, none⟩) 1 1 ∧ X27 I B F w g y ∧ X26 I F w y) ∧
  (j = 30 → ∃ A c, v = .slice A (I.its x).length c ∧ X30 I x F w A c) ∧
  (j = 31 → ∃ S c l A d gg gr y AI cI, v = .agg #[.int .i64 x, .int .i64 I.c.wk, .int .i64 I.c.mi, .pointer (some ⟨bs, 0, none⟩), .slice S I.m c, .pointer (some ⟨smb, 0, none⟩), .pointer (some ⟨plb, 0, none⟩), .slice A (I.mc x).pc.nb d, .int .i64 I.c.ra, .int .i64 I.c.mo, .int .i64 I.c.sh,
    sP, sM, .slice (some ⟨gg, 0, none⟩) I.P I.P, .slice (some ⟨gr, 0, none⟩) 1 1, .slice AI (I.its x).length cI, .int .i64 0, .int .i64 0, .slice none 0 0] ∧ X8 I F w S c l ∧ X12 I x F w A d ∧ X24 I B F w gg ∧ X26 I F w y ∧ X27 I B F w gr y ∧ X30 I x F w AI cI)
end
section
open Go.RowKit
variable {I : InC} {x bs smb plb : Nat} {B : Nat} {F F' : Nat → Prop} {w w' : World}
theorem Hg.grow {P : World → Prop} (h : Hg F w P) (hb : Below w.heap.size w w') (hF : ∀ i, i < w.heap.size → (F' i ↔ F i)) : Hg F' w' P := (h.mono (fun i hi hFi => (hF i hi).2 hFi)).below hb
theorem X8.grow {S : Option Addr} {c : Nat} {l : List StS} (h : X8 I F w S c l) (hb : Below w.heap.size w w') (hF : ∀ i, i < w.heap.size → (F' i ↔ F i)) : X8 I F' w' S c l := ⟨h.1, h.2.grow hb hF⟩
theorem X12.grow {A : Option Addr} {c : Nat} (h : X12 I x F w A c) (hb : Below w.heap.size w w') (hF : ∀ i, i < w.heap.size → (F' i ↔ F i)) : X12 I x F' w' A c := Hg.grow h hb hF
theorem X24.grow {g : Nat} (h : X24 I B F w g) (hb : Below w.heap.size w w') (hF : ∀ i, i < w.heap.size → (F' i ↔ F i)) : X24 I B F' w' g := ⟨h.1, fun e => h.2.1 ((hF g (h.2.2.lt g rfl).2).1 e), own_below h.2.2 hb⟩
theorem X26.grow {y : StS} (h : X26 I F w y) (hb : Below w.heap.size w w') (hF : ∀ i, i < w.heap.size → (F' i ↔ F i)) : X26 I F' w' y := Hg.grow h hb hF
theorem X27.grow {g : Nat} {y : StS} (h : X27 I B F w g y) (hb : Below w.heap.size w w') (hF : ∀ i, i < w.heap.size → (F' i ↔ F i)) : X27 I B F' w' g y := ⟨h.1, fun e => h.2.1 ((hF g (h.2.2.lt g rfl).2).1 e), own_below h.2.2 hb⟩
theorem X30.grow {A : Option Addr} {c : Nat} (h : X30 I x F w A c) (hb : Below w.heap.size w w') (hF : ∀ i, i < w.heap.size → (F' i ↔ F i)) : X30 I x F' w' A c := Hg.grow h hb hF
theorem NewV.grow {sP sM : Value} (F F' : Nat → Prop) (j : Nat) (v : Value) (w w' : World) (h : NewV I x bs smb plb B F sP sM j v w) (hb : Below w.heap.size w w') (hF : ∀ i, i < w.heap.size → (F' i ↔ F i)) : NewV I x bs smb plb B F' sP sM j v w' := by
  obtain ⟨h1, h2, h3, h4, h5, h6, h7, h8, h9⟩ := h
  refine ⟨fun e => ?_, fun e => ?_, fun e => ?_, h4, fun e => ?_, fun e => ?_, fun e => ?_, fun e => ?_, fun e => ?_⟩
  · obtain ⟨S, c, l, hv, a⟩ := h1 e
    exact ⟨S, c, l, hv, a.grow hb hF⟩
  · obtain ⟨A, c, hv, a⟩ := h2 e
    exact ⟨A, c, hv, a.grow hb hF⟩
  · obtain ⟨S, c, l, A, d, hv, a, b⟩ := h3 e
    exact ⟨S, c, l, A, d, hv, a.grow hb hF, b.grow hb hF⟩
  · obtain ⟨g, hv, a⟩ := h5 e
    exact ⟨g, hv, a.grow hb hF⟩
  · obtain ⟨y, hv, a⟩ := h6 e
    exact ⟨y, hv, a.grow hb hF⟩
  · obtain ⟨g, y, hv, a, b⟩ := h7 e
    exact ⟨g, y, hv, a.grow hb hF, b.grow hb hF⟩
  · obtain ⟨A, c, hv, a⟩ := h8 e
    exact ⟨A, c, hv, a.grow hb hF⟩
  · obtain ⟨S, c, l, A, d, gg, gr, y, AI, cI, hv, a, b, b2, b3, b4, b5⟩ := h9 e
    exact ⟨S, c, l, A, d, gg, gr, y, AI, cI, hv, a.grow hb hF, b.grow hb hF, b2.grow hb hF, b3.grow hb hF, b4.grow hb hF, b5.grow hb hF⟩
end
section
open Go.RowKit
variable {I : InC} {x bs smb plb : Nat} {B : Nat} {F F' : Nat → Prop} {w w' : World}
variable {sP sM : Value} {v : Value}
theorem NewV.mk8 {S : Option Addr} {c : Nat} {l : List StS} (h : X8 I F w S c l) : NewV I x bs smb plb B F sP sM 8 (.slice S I.m c) w := ⟨fun _ => ⟨S, c, l, rfl, h⟩, fun e => (by omega), fun e => (by omega), fun e => (by omega), fun e => (by omega), fun e => (by omega), fun e => (by omega), fun e => (by omega), fun e => (by omega)⟩
theorem NewV.mk12 {A : Option Addr} {c : Nat} (h : X12 I x F w A c) : NewV I x bs smb plb B F sP sM 12 (.slice A (I.mc x).pc.nb c) w := ⟨fun e => (by omega), fun _ => ⟨A, c, rfl, h⟩, fun e => (by omega), fun e => (by omega), fun e => (by omega), fun e => (by omega), fun e => (by omega), fun e => (by omega), fun e => (by omega)⟩
theorem NewV.mk20 {S A : Option Addr} {c d : Nat} {l : List StS} (h : X8 I F w S c l) (h2 : X12 I x F w A d) : NewV I x bs smb plb B F sP sM 20 (.agg #[.int .i64 x, .int .i64 I.c.wk, .int .i64 I.c.mi, .pointer (some ⟨bs, 0, none⟩), .slice S I.m c, .pointer (some ⟨smb, 0, none⟩), .pointer (some ⟨plb, 0, none⟩), .slice A (I.mc x).pc.nb d, .int .i64 I.c.ra, .int .i64 I.c.mo, .int .i64 I.c.sh]) w :=
  ⟨fun e => (by omega), fun e => (by omega), fun _ => ⟨S, c, l, A, d, rfl, h, h2⟩, fun e => (by omega), fun e => (by omega), fun e => (by omega), fun e => (by omega), fun e => (by omega), fun e => (by omega)⟩
theorem NewV.mk23 : NewV I x bs smb plb B F sP sM 23 (.int .i64 I.P) w := ⟨fun e => (by omega), fun e => (by omega), fun e => (by omega), fun _ => rfl, fun e => (by omega), fun e => (by omega), fun e => (by omega), fun e => (by omega), fun e => (by omega)⟩
theorem NewV.mk24 {g : Nat} (h : X24 I B F w g) : NewV I x bs smb plb B F sP sM 24 (.slice (some ⟨g, 0, none⟩) I.P I.P) w := ⟨fun e => (by omega), fun e => (by omega), fun e => (by omega), fun e => (by omega), fun _ => ⟨g, rfl, h⟩, fun e => (by omega), fun e => (by omega), fun e => (by omega), fun e => (by omega)⟩
theorem NewV.mk26 {y : StS} (h : X26 I F w y) : NewV I x bs smb plb B F sP sM 26 (.agg #[.slice y.1 I.P y.2.1, .slice y.2.2.1 I.P y.2.2.2]) w := ⟨fun e => (by omega), fun e => (by omega), fun e => (by omega), fun e => (by omega), fun e => (by omega), fun _ => ⟨y, rfl, h⟩, fun e => (by omega), fun e => (by omega), fun e => (by omega)⟩
theorem NewV.mk27 {g : Nat} {y : StS} (h : X27 I B F w g y) (h2 : X26 I F w y) : NewV I x bs smb plb B F sP sM 27 (.slice (some ⟨g, 0, none⟩) 1 1) w := ⟨fun e => (by omega), fun e => (by omega), fun e => (by omega), fun e => (by omega), fun e => (by omega), fun e => (by omega), fun _ => ⟨g, y, rfl, h, h2⟩, fun e => (by omega), fun e => (by omega)⟩
theorem NewV.mk30 {A : Option Addr} {c : Nat} (h : X30 I x F w A c) : NewV I x bs smb plb B F sP sM 30 (.slice A (I.its x).length c) w := ⟨fun e => (by omega), fun e => (by omega), fun e => (by omega), fun e => (by omega), fun e => (by omega), fun e => (by omega), fun e => (by omega), fun _ => ⟨A, c, rfl, h⟩, fun e => (by omega)⟩
theorem NewV.mk31 {S A AI : Option Addr} {c d gg gr cI : Nat} {l : List StS} {y : StS} (h : X8 I F w S c l) (h2 : X12 I x F w A d) (h3 : X24 I B F w gg) (h4 : X26 I F w y) (h5 : X27 I B F w gr y) (h6 : X30 I x F w AI cI) : NewV I x bs smb plb B F sP sM 31 (.agg #[.int .i64 x, .int .i64 I.c.wk, .int .i64 I.c.mi, .pointer (some ⟨bs, 0, none⟩), .slice S I.m c, .pointer (some ⟨smb, 0, none⟩), .pointer (some ⟨plb, 0, none⟩), .slice A (I.mc x).pc.nb d, .int .i64 I.c.ra, .int .i64 I.c.mo, .int .i64 I.c.sh,
    sP, sM, .slice (some ⟨gg, 0, none⟩) I.P I.P, .slice (some ⟨gr, 0, none⟩) 1 1, .slice AI (I.its x).length cI, .int .i64 0, .int .i64 0, .slice none 0 0]) w :=
  ⟨fun e => (by omega), fun e => (by omega), fun e => (by omega), fun e => (by omega), fun e => (by omega), fun e => (by omega), fun e => (by omega), fun e => (by omega), fun _ => ⟨S, c, l, A, d, gg, gr, y, AI, cI, rfl, h, h2, h3, h4, h5, h6⟩⟩
end
section
open Go.RowKit
theorem allIn_zeros (n : Nat) : AllIn (zeros n) := by
  intro x hx
  have := List.eq_of_mem_replicate hx
  subst this
  exact ⟨by decide, by decide⟩
abbrev newC (I : InC) (x bs smb plb gp cP gm cM : Nat) (S A AI : Option Addr) (c d gg gr cI : Nat) : Array Value := #[.int .i64 x, .int .i64 I.c.wk, .int .i64 I.c.mi, .pointer (some ⟨bs, 0, none⟩), .slice S I.m c, .pointer (some ⟨smb, 0, none⟩), .pointer (some ⟨plb, 0, none⟩), .slice A (I.mc x).pc.nb d, .int .i64 I.c.ra, .int .i64 I.c.mo, .int .i64 I.c.sh,
    .slice (some ⟨gp, 0, none⟩) I.P cP, .slice (some ⟨gm, 0, none⟩) I.P cM, .slice (some ⟨gg, 0, none⟩) I.P I.P, .slice (some ⟨gr, 0, none⟩) 1 1, .slice AI (I.its x).length cI, .int .i64 0, .int .i64 0, .slice none 0 0]
theorem mnew_fin {I : InC} {x bs smb plb base : Nat} {gp cP gm cM lo hi : Nat} {F : Nat → Prop} {w8 W : World} {S8 A8 AI : Option Addr} {c8 d8 g24 g27 cI : Nat} {l8 : List StS} {y : StS} (HK : (I.mc x).Ok) (HO : I.Ok)
    (h1 : Hg (fun i => lo ≤ i ∧ i < hi) w8 (fun W => ShapeAt W base bs I.l I.n)) (h2 : Hg (fun i => lo ≤ i ∧ i < hi) w8 (fun W => SmpAt W 0 smb I.c.ba.toNat I.c.st.toNat (I.m / I.c.ba.toNat) (cnt I.c.st.toNat (I.m / I.c.ba.toNat)) (blocksL (I.m / I.c.ba.toNat * I.c.ba.toNat) I.c.ba.toNat) (ordsL I.L I.m (cnt I.c.st.toNat (I.m / I.c.ba.toNat)))))
    (h3 : Hg (fun i => lo ≤ i ∧ i < hi) w8 (fun W => PlanAt W plb (I.mc x).pc I.c I.A I.n I.cap)) (hi8 : hi ≤ w8.heap.size) (hlo : lo ≤ hi) (hF : ∀ i, i < w8.heap.size → (F i ↔ (lo ≤ i ∧ i < hi))) (hb : Below w8.heap.size w8 W)
    (hp : w8.ownsRow hi 2 1 (.slice (some ⟨gp, 0, none⟩) I.P cP) I.P (iv I.P0)) (hq : w8.ownsRow hi 2 1 (.slice (some ⟨gm, 0, none⟩) I.P cM) I.P (iv (zeros I.P))) (hpm : gp ≠ gm)
    (x8 : X8 I F W S8 c8 l8) (x12 : X12 I x F W A8 d8) (x24 : X24 I w8.heap.size F W g24) (x26 : X26 I F W y) (x27 : X27 I w8.heap.size F W g27 y) (x30 : X30 I x F W AI cI) :
    MachAt (fun i => lo ≤ i) (W.alloc (.cells (newC I x bs smb plb gp cP gm cM S8 A8 AI c8 d8 g24 g27 cI) 121)) W.heap.size (I.mc x) (startMS I x) := by
  have hN := HO.nums
  have hgp := hp.lt gp rfl
  have hgm := hq.lt gm rfl
  have hnF : ∀ g, hi ≤ g → g < w8.heap.size → ¬ F g := fun g a b e => by have := ((hF g b).1 e).2; omega
  have hba : Below W.heap.size W (W.alloc (.cells (newC I x bs smb plb gp cP gm cM S8 A8 AI c8 d8 g24 g27 cI) 121)) := (Below.refl _ _).alloc (Nat.le_refl _) _
  have m0 : ∀ {Q : World → Prop}, Hg (fun i => lo ≤ i ∧ i < hi) w8 Q → Hg (fun i => F i ∧ i < W.heap.size) W Q := fun h => (h.below hb).mono (fun i hiW hi' => ⟨(hF i (by omega)).2 hi', hiW⟩)
  have m1 : ∀ {Q : World → Prop}, Hg F W Q → Hg (fun i => F i ∧ i < W.heap.size) W Q := fun h => h.mono (fun i hiW hi' => ⟨hi', hiW⟩)
  have hfz : Hg (fun i => F i ∧ i < W.heap.size) W (fun V => FzAt V (I.mc x) (startMS I x) { base := base, bs := bs, S := S8, cS := c8, es := l8, smb := smb, plb := plb, A := I.A, nA := I.n, capA := I.cap, Ab := A8, cb := d8, gp := gp, cP := cP, gm := gm, cM := cM, gg := g24, cG := I.P, AR := some ⟨g27, 0, none⟩, cR := 1, rs := [y], AI := AI, cI := cI, AO := none, cO := 0 }) := by
    refine Hg.imp ((((((m0 h1).and (m0 h2)).and (m0 h3)).and (m1 x8.2)).and (m1 x12)).and ((m1 x26).and (m1 x30))) ?_
    rintro V ⟨⟨⟨⟨⟨a1, a2⟩, a3⟩, a4⟩, a5⟩, a6, a7⟩
    exact ⟨a1, a4.1, x8.1, a4.2, a2, a3, a5, a7, rfl, a6⟩
  refine ⟨fun i => F i ∧ i < W.heap.size, _, ⟨?_, hfz.below hba, own_base ((own_below hp hb).alloc _) (Nat.zero_le _), own_base ((own_below hq hb).alloc _) (Nat.zero_le _), x24.2.2.alloc _, x27.2.2.alloc _, World.ownsRow_nil _ _ _ _, hpm, ?_, ?_, ?_, fun i hi => ?_, HO.pi, allIn_zeros _, ?_, Nat.zero_le _, ?_, ?_, ?_⟩, fun i hi => ?_, fun i hi => ?_⟩
  · have e1 : ((I.mc x).pc.m : Int) = I.c.wk := by show (I.c.wk.toNat : Int) = _; have := hN.wk; omega
    have e2 : ((I.mc x).pc.mi : Int) = I.c.mi := by show (I.c.mi.toNat : Int) = _; have := hN.mi; omega
    have := Blk.new W 121 (newC I x bs smb plb gp cP gm cM S8 A8 AI c8 d8 g24 g27 cI)
    have ec : machC (I.mc x) (startMS I x) { base := base, bs := bs, S := S8, cS := c8, es := l8, smb := smb, plb := plb, A := I.A, nA := I.n, capA := I.cap, Ab := A8, cb := d8, gp := gp, cP := cP, gm := gm, cM := cM, gg := g24, cG := I.P, AR := some ⟨g27, 0, none⟩, cR := 1, rs := [y], AI := AI, cI := cI, AO := none, cO := 0 } = newC I x bs smb plb gp cP gm cM S8 A8 AI c8 d8 g24 g27 cI := by
      unfold machC newC
      rw [e1, e2]
      rfl
    rw [ec]
    exact this
  · intro e
    have := x24.1
    have e' : gp = g24 := e
    omega
  · intro e
    have := x24.1
    have e' : gm = g24 := e
    omega
  · rintro i (hi | hi | hi | hi | hi | hi) ⟨hFi, hlt⟩
    · have hi' : i = W.heap.size := hi
      omega
    · have hi' : i = gp := hi
      rw [hi'] at hFi
      exact hnF gp hgp.1 hgp.2 hFi
    · have hi' : i = gm := hi
      rw [hi'] at hFi
      exact hnF gm hgm.1 hgm.2 hFi
    · have hi' : i = g24 := hi
      rw [hi'] at hFi
      exact x24.2.1 hFi
    · have hi' : g27 = i := by simpa [blkOf, Value.ownBlock] using hi
      rw [← hi'] at hFi
      exact x27.2.1 hFi
    · simp [blkOf, Value.ownBlock] at hi
  · exact Nat.lt_of_lt_of_le hi.2 hba.size
  · show 1 ≤ 1000
    omega
  · show (I.its x).length ≤ 200000000
    unfold InC.its PlC.stepI
    split
    · exact PlC.itemsI_le HK.pcok _ _
    · simp
  · show 0 ≤ 1000000000000
    omega
  · show 0 ≤ 1000000
    omega
  · obtain ⟨hFi, hlt⟩ := hi
    by_cases h : i < w8.heap.size
    · exact ((hF i h).1 hFi).1
    · omega
  · rcases hi with hi | hi | hi | hi | hi | hi
    · have hi' : i = W.heap.size := hi
      have := hb.size
      omega
    · have hi' : i = gp := hi
      omega
    · have hi' : i = gm := hi
      omega
    · have hi' : i = g24 := hi
      have := x24.1
      omega
    · have hi' : g27 = i := by simpa [blkOf, Value.ownBlock] using hi
      have := x27.1
      omega
    · simp [blkOf, Value.ownBlock] at hi
end
end Go.Proofs.YtkmaeipoaoikpaaGreat
