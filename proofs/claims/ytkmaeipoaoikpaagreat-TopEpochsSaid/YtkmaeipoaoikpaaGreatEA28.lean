/-
  Lemmas and contracts (28): MachP, Check, PlanRef1, PermDraw.
-/
import Derived.WalkKit
import Derived.WalkSpells
import Derived.WalkLawsBesides
import Derived.Lib.Hide
import Derived.Deep.QuietTactic
import Derived.BigQuiet
import Derived.IntWalk
import Derived.Deep.RegionHeld3
import Derived.Maps.AppendAt
import Derived.ProofKit
import Derived.OpenShut
import Derived.Deep.Slices
import Derived.Deep.Fields
import Derived.Test.YtkmaeipoaoikpaaGreatProg
import Derived.Laws.OwnMore
import Derived.Deep.Draws
import Derived.Laws.Rows
import Derived.Laws.EntriesVeiled
import Derived.RangeFuncNested
import Derived.RangeFuncBox
import Derived.RangeFuncLeaves
import Derived.Shelf.Abstract
import Derived.OwnWalkIn
import Derived.TacticsInMore
import Derived.LoopNIn
import Derived.LoopIn
import Derived.StillTail
import Derived.OrdersIn
import Derived.RangeFuncCalls
import Derived.OrdersHeld
import Derived.Laws.Bits64
import Derived.Deep.DeepMust
import Derived.Deep.DeepCutAuto
import Derived.BigRegion
import Derived.Laws.BitsAllLaws
import Derived.Test.YtkmaeipoaoikpaaGreatShelf
import Derived.SizedLaws
import Derived.Deep.OwnRows
import Derived.Laws.CopyOwn
import Derived.RangeFuncFrom
import Derived.OwnWalk
import Derived.WalkMore
import Derived.Maps.Own
import Derived.Maps.Views
import Derived.Maps.Keyed
import Derived.Maps.OwnOps
import Derived.Maps.Ext
import Derived.Carry
import Derived.Test.YtkmaeipoaoikpaaGreatEA01
import Derived.Test.YtkmaeipoaoikpaaGreatEA02
import Derived.Test.YtkmaeipoaoikpaaGreatEA03
import Derived.Test.YtkmaeipoaoikpaaGreatEA04
import Derived.Test.YtkmaeipoaoikpaaGreatEA05
import Derived.Test.YtkmaeipoaoikpaaGreatEA06
import Derived.Test.YtkmaeipoaoikpaaGreatEA07
import Derived.Test.YtkmaeipoaoikpaaGreatEA08
import Derived.Test.YtkmaeipoaoikpaaGreatEA09
import Derived.Test.YtkmaeipoaoikpaaGreatEA10
import Derived.Test.YtkmaeipoaoikpaaGreatEA11
import Derived.Test.YtkmaeipoaoikpaaGreatEA12
import Derived.Test.YtkmaeipoaoikpaaGreatEA13
import Derived.Test.YtkmaeipoaoikpaaGreatEA14
import Derived.Test.YtkmaeipoaoikpaaGreatEA15
import Derived.Test.YtkmaeipoaoikpaaGreatEA16
import Derived.Test.YtkmaeipoaoikpaaGreatEA17
import Derived.Test.YtkmaeipoaoikpaaGreatEA18
import Derived.Test.YtkmaeipoaoikpaaGreatEA19
import Derived.Test.YtkmaeipoaoikpaaGreatEA20
import Derived.Test.YtkmaeipoaoikpaaGreatEA21
import Derived.Test.YtkmaeipoaoikpaaGreatEA22
import Derived.Test.YtkmaeipoaoikpaaGreatEA23
import Derived.Test.YtkmaeipoaoikpaaGreatEA24
import Derived.Test.YtkmaeipoaoikpaaGreatEA25
import Derived.Test.YtkmaeipoaoikpaaGreatEA26
import Derived.Test.YtkmaeipoaoikpaaGreatEA27
namespace Go.Proofs.YtkmaeipoaoikpaaGreat
set_option linter.unusedVariables false
set_option linter.unusedSimpArgs false
set_option maxRecDepth 100000
section
open Go.RowKit
abbrev mitC (k1 k2 k3 : Int) (sd ad : Bool) (s b p r i x y : Int) : Array Value := #[.int .i64 k1, .int .i64 k2, .int .i64 k3, .bool sd, .bool ad, .int .i64 s, .int .i64 b, .int .i64 p, .int .i64 r, .int .i64 i, .int .i64 x, .int .i64 y]
structure MC where
  l : List Int
  n : Nat
  NP : Nat
  c : Cfg
  x : Nat
  m : Nat
  N : Nat
  M : Nat
  f : Nat → List Int × List Int
  L : List Int
  b : Nat
  st : Nat
  q : Nat
  E : Nat
  pc : PlC
structure MC.Ok (K : MC) : Prop where
  len : K.l.length = K.n
  n2 : 2 ≤ K.n
  n16 : K.n ≤ 16
  pos : ∀ (k : Nat) (x : Int), K.l[k]? = some x → 1 ≤ x ∧ x ≤ 1000
  cnt : ofN K.l (K.n - 1) = K.NP
  np : K.NP ≤ 1000
  np1 : 1 ≤ K.NP
  q0 : 0 ≤ K.c.sh
  q62 : K.c.sh ≤ 62
  hN : K.N = szN K.l 0
  hM : K.M = szN K.l (K.n - 1)
  fl : ∀ i, i < K.m → (K.f (i + 1)).1.length = K.N ∧ (K.f (i + 1)).2.length = K.M
  fi : ∀ i, i < K.m → AllIn (K.f (i + 1)).1
  smp : SmpP K.m K.b K.st K.q K.E
  dr : K.E * (K.m - 1) ≤ K.L.length
  pcok : K.pc.Ok
  fits : Fits K.pc K.c
  pcP : K.pc.P = K.NP
  xw : K.x < K.pc.m
  st : K.c.st = (K.st : Int)
  ra : In1 K.c.ra
  mo : In1 K.c.mo
theorem MC.Ok.net {K : MC} (h : K.Ok) {P : List Int} (hl : P.length = K.NP) (hi : AllIn P) : NetP K.l K.n K.NP P K.c.sh :=
  ⟨h.len, h.n2, h.n16, h.pos, h.cnt, h.np, hl, hi, h.q0, h.q62⟩
structure MS where
  P : List Int
  M : List Int
  G : List Int
  rcd : List (List Int × List Int)
  its : List RItem
  nx : Nat
  cnt : Nat
  opn : List Int
structure MA where
  base : Nat
  bs : Nat
  S : Option Addr
  cS : Nat
  es : List StS
  smb : Nat
  plb : Nat
  A : Option Addr
  nA : Nat
  capA : Nat
  Ab : Option Addr
  cb : Nat
  gp : Nat
  cP : Nat
  gm : Nat
  cM : Nat
  gg : Nat
  cG : Nat
  AR : Option Addr
  cR : Nat
  rs : List StS
  AI : Option Addr
  cI : Nat
  AO : Option Addr
  cO : Nat
abbrev machC (K : MC) (s : MS) (a : MA) : Array Value := #[.int .i64 K.x, .int .i64 K.pc.m, .int .i64 K.pc.mi, .pointer (some ⟨a.bs, 0, none⟩), .slice a.S K.m a.cS, .pointer (some ⟨a.smb, 0, none⟩), .pointer (some ⟨a.plb, 0, none⟩), .slice a.Ab K.pc.nb a.cb, .int .i64 K.c.ra, .int .i64 K.c.mo, .int .i64 K.c.sh,
  .slice (some ⟨a.gp, 0, none⟩) K.NP a.cP, .slice (some ⟨a.gm, 0, none⟩) K.NP a.cM, .slice (some ⟨a.gg, 0, none⟩) K.NP a.cG, .slice a.AR s.rcd.length a.cR, .slice a.AI s.its.length a.cI, .int .i64 s.nx, .int .i64 s.cnt, .slice a.AO s.opn.length a.cO]
def recF (l : List (List Int × List Int)) : Nat → List Int × List Int := fun i => l.getD (i - 1) ([], [])
structure FzAt (W : World) (K : MC) (s : MS) (a : MA) : Prop where
  shp : ShapeAt W a.base a.bs K.l K.n
  exs : W.ownsRow 0 162 2 (.slice a.S K.m a.cS) K.m (stv K.N K.M a.es)
  esl : a.es.length = K.m
  exr : OwnS W 0 K.N K.M a.es K.f
  smp : SmpAt W 0 a.smb K.b K.st K.q K.E (blocksL (K.q * K.b) K.b) (ordsL K.L K.m K.E)
  pln : PlanAt W a.plb K.pc K.c a.A a.nA a.capA
  bks : W.ownsRow 0 218 2 (.slice a.Ab K.pc.nb a.cb) K.pc.nb (rv K.pc.bks)
  its : W.ownsRow 0 222 12 (.slice a.AI s.its.length a.cI) s.its.length (itemsV s.its)
  rsl : a.rs.length = s.rcd.length
  rsr : OwnS W 0 K.NP K.NP a.rs (recF s.rcd)
def blkOf (A : Option Addr) : Option Nat := (Value.slice A 0 0).ownBlock
theorem own_blkOf (A : Option Addr) (n c : Nat) : (Value.slice A n c).ownBlock = blkOf A := by cases A <;> rfl
def Mu (mb : Nat) (a : MA) (i : Nat) : Prop := i = mb ∨ i = a.gp ∨ i = a.gm ∨ i = a.gg ∨ blkOf a.AR = some i ∨ blkOf a.AO = some i
structure MachIn (F : Nat → Prop) (w : World) (mb : Nat) (K : MC) (s : MS) (a : MA) : Prop where
  blk : Blk w mb 121 (machC K s a)
  fz : Hg F w (fun W => FzAt W K s a)
  prow : w.ownsRow 0 2 1 (.slice (some ⟨a.gp, 0, none⟩) K.NP a.cP) K.NP (iv s.P)
  mrow : w.ownsRow 0 2 1 (.slice (some ⟨a.gm, 0, none⟩) K.NP a.cM) K.NP (iv s.M)
  grow : w.ownsRow 0 2 1 (.slice (some ⟨a.gg, 0, none⟩) K.NP a.cG) K.NP (iv s.G)
  rrow : w.ownsRow 0 92 2 (.slice a.AR s.rcd.length a.cR) s.rcd.length (stv K.NP K.NP a.rs)
  orow : w.ownsRow 0 3 1 (.slice a.AO s.opn.length a.cO) s.opn.length (iv s.opn)
  npm : a.gp ≠ a.gm
  npg : a.gp ≠ a.gg
  nmg : a.gm ≠ a.gg
  nf : ∀ i, Mu mb a i → ¬ F i
  fw : ∀ i, F i → i < w.heap.size
  pin : AllIn s.P
  min : AllIn s.M
  rl : s.rcd.length ≤ 1000
  nl : s.nx ≤ s.its.length
  il : s.its.length ≤ 200000000
  cl : s.cnt ≤ 1000000000000
  ol : s.opn.length ≤ 1000000
def MachAt (S : Nat → Prop) (w : World) (mb : Nat) (K : MC) (s : MS) : Prop := ∃ F a, MachIn F w mb K s a ∧ (∀ i, F i → S i) ∧ (∀ i, Mu mb a i → S i)
end
section
open Go.RowKit
variable {F S T : Nat → Prop} {w w' : World} {mb : Nat} {K : MC} {s : MS} {a : MA}
theorem MachIn.lens (h : MachIn F w mb K s a) : s.P.length = K.NP ∧ s.M.length = K.NP ∧ s.G.length = K.NP ∧ a.rs.length = s.rcd.length := by
  have h1 := h.prow.1
  have h2 := h.mrow.1
  have h3 := h.grow.1
  rw [iv_length] at h1 h2 h3
  exact ⟨by omega, by omega, by omega, h.fz.here.rsl⟩
theorem MachIn.mu_lt (h : MachIn F w mb K s a) {i : Nat} (hi : Mu mb a i) : i < w.heap.size := by
  rcases hi with rfl | rfl | rfl | rfl | hi | hi
  · exact h.blk.lt
  · exact (h.prow.lt _ rfl).2
  · exact (h.mrow.lt _ rfl).2
  · exact (h.grow.lt _ rfl).2
  · exact (h.rrow.lt _ ((own_blkOf _ _ _).trans hi)).2
  · exact (h.orow.lt _ ((own_blkOf _ _ _).trans hi)).2
theorem MachIn.step (h : MachIn F w mb K s a) (hs : w.heap.size ≤ w'.heap.size) (hF : ∀ i, i < w.heap.size → F i → w'.heap[i]? = w.heap[i]?) (hM : ∀ i, Mu mb a i → w'.heap[i]? = w.heap[i]?) : MachIn F w' mb K s a :=
  ⟨(hM mb (.inl rfl)).trans h.blk, h.fz.step hs hF, Hg.own (S := Mu mb a) h.prow (fun g hg => .inr (.inl (by simpa [Value.ownBlock] using hg.symm))) w' hs (fun i _ hi => hM i hi), Hg.own (S := Mu mb a) h.mrow (fun g hg => .inr (.inr (.inl (by simpa [Value.ownBlock] using hg.symm)))) w' hs (fun i _ hi => hM i hi),
    Hg.own (S := Mu mb a) h.grow (fun g hg => .inr (.inr (.inr (.inl (by simpa [Value.ownBlock] using hg.symm))))) w' hs (fun i _ hi => hM i hi), Hg.own (S := Mu mb a) h.rrow (fun g hg => .inr (.inr (.inr (.inr (.inl ((own_blkOf _ _ _).symm.trans hg)))))) w' hs (fun i _ hi => hM i hi),
    Hg.own (S := Mu mb a) h.orow (fun g hg => .inr (.inr (.inr (.inr (.inr ((own_blkOf _ _ _).symm.trans hg)))))) w' hs (fun i _ hi => hM i hi), h.npm, h.npg, h.nmg, h.nf, fun i hi => Nat.lt_of_lt_of_le (h.fw i hi) hs, h.pin, h.min, h.rl, h.nl, h.il, h.cl, h.ol⟩
theorem MachIn.below (h : MachIn F w mb K s a) (hb : Below w.heap.size w w') : MachIn F w' mb K s a := h.step hb.size (fun i hi _ => hb.block i hi) (fun i hi => hb.block i (h.mu_lt hi))
theorem MachAt.step (h : MachAt S w mb K s) (hs : w.heap.size ≤ w'.heap.size) (hb : ∀ i, i < w.heap.size → S i → w'.heap[i]? = w.heap[i]?) : MachAt S w' mb K s := by
  obtain ⟨F, a, h, h1, h2⟩ := h
  exact ⟨F, a, h.step hs (fun i hi hF => hb i hi (h1 i hF)) (fun i hi => hb i (h.mu_lt hi) (h2 i hi)), h1, h2⟩
theorem MachAt.mono (h : MachAt S w mb K s) (hST : ∀ i, i < w.heap.size → S i → T i) : MachAt T w mb K s := by
  obtain ⟨F, a, h, h1, h2⟩ := h
  exact ⟨F, a, h, fun i hi => hST i (h.fw i hi) (h1 i hi), fun i hi => hST i (h.mu_lt hi) (h2 i hi)⟩
theorem MachIn.setG (h : MachIn F w mb K s a) {G' : List Int} (hb : But (fun i => i = a.gg) w w') (hG : w'.ownsRow 0 2 1 (.slice (some ⟨a.gg, 0, none⟩) K.NP a.cG) K.NP (iv G')) : MachIn F w' mb K { s with G := G' } a :=
  ⟨h.blk.but hb (fun e => own_blk_ne h.grow h.blk (by decide) (by rw [e]; rfl)), Hg.imp (h.fz.but hb (fun i _ hF e => h.nf i (.inr (.inr (.inr (.inl e)))) hF)) (fun W hW => ⟨hW.shp, hW.exs, hW.esl, hW.exr, hW.smp, hW.pln, hW.bks, hW.its, hW.rsl, hW.rsr⟩),
    own_but h.prow hb (fun g e1 e2 => h.npg (by have : a.gp = g := by simpa [Value.ownBlock] using e1
                                                rw [this, e2])), own_but h.mrow hb (fun g e1 e2 => h.nmg (by have : a.gm = g := by simpa [Value.ownBlock] using e1
                                                                                                             rw [this, e2])), hG,
    own_but h.rrow hb (fun g e1 e2 => lnk_own_ne h.rrow h.grow (by decide) g e1 (by rw [e2]; rfl)), own_but h.orow hb (fun g e1 e2 => lnk_own_ne h.orow h.grow (by decide) g e1 (by rw [e2]; rfl)),
    h.npm, h.npg, h.nmg, h.nf, fun i hi => Nat.lt_of_lt_of_le (h.fw i hi) hb.size, h.pin, h.min, h.rl, h.nl, h.il, h.cl, h.ol⟩
theorem MachIn.setPM (h : MachIn F w mb K s a) {P' M' : List Int} (hb : But (fun i => i = a.gp ∨ i = a.gm) w w') (hP : w'.ownsRow 0 2 1 (.slice (some ⟨a.gp, 0, none⟩) K.NP a.cP) K.NP (iv P')) (hM : w'.ownsRow 0 2 1 (.slice (some ⟨a.gm, 0, none⟩) K.NP a.cM) K.NP (iv M')) (hPi : AllIn P') (hMi : AllIn M') :
    MachIn F w' mb K { s with P := P', M := M' } a := by
  have hT : ∀ i, i < w.heap.size → F i → ¬ (i = a.gp ∨ i = a.gm) := by
    rintro i _ hF (e | e)
    · exact h.nf i (.inr (.inl e)) hF
    · exact h.nf i (.inr (.inr (.inl e))) hF
  refine ⟨h.blk.but hb ?_, Hg.imp (h.fz.but hb hT) (fun W hW => ⟨hW.shp, hW.exs, hW.esl, hW.exr, hW.smp, hW.pln, hW.bks, hW.its, hW.rsl, hW.rsr⟩), hP, hM,
    own_but h.grow hb ?_, own_but h.rrow hb ?_, own_but h.orow hb ?_, h.npm, h.npg, h.nmg, h.nf, fun i hi => Nat.lt_of_lt_of_le (h.fw i hi) hb.size, hPi, hMi, h.rl, h.nl, h.il, h.cl, h.ol⟩
  · rintro (e | e)
    · exact own_blk_ne h.prow h.blk (by decide) (by rw [e]; rfl)
    · exact own_blk_ne h.mrow h.blk (by decide) (by rw [e]; rfl)
  · rintro g e (e1 | e1)
    · exact h.npg (by have : a.gg = g := by simpa [Value.ownBlock] using e
                      rw [this, e1])
    · exact h.nmg (by have : a.gg = g := by simpa [Value.ownBlock] using e
                      rw [this, e1])
  · rintro g e (e1 | e1)
    · exact lnk_own_ne h.rrow h.prow (by decide) g e (by rw [e1]; rfl)
    · exact lnk_own_ne h.rrow h.mrow (by decide) g e (by rw [e1]; rfl)
  · rintro g e (e1 | e1)
    · exact lnk_own_ne h.orow h.prow (by decide) g e (by rw [e1]; rfl)
    · exact lnk_own_ne h.orow h.mrow (by decide) g e (by rw [e1]; rfl)
theorem MachIn.setN (h : MachIn F w mb K s a) {nx cnt : Nat} (hg : w.grownBy w' (some mb)) (hB : Blk w' mb 121 (machC K { s with nx := nx, cnt := cnt } a)) (hn : nx ≤ s.its.length) (hc : cnt ≤ 1000000000000) : MachIn F w' mb K { s with nx := nx, cnt := cnt } a := by
  have hb : But (fun i => i = mb) w w' := But.of_gr hg rfl
  refine ⟨hB, Hg.imp (h.fz.but hb (fun i _ hF e => h.nf i (.inl e) hF)) (fun W hW => ⟨hW.shp, hW.exs, hW.esl, hW.exr, hW.smp, hW.pln, hW.bks, hW.its, hW.rsl, hW.rsr⟩),
    own_but h.prow hb ?_, own_but h.mrow hb ?_, own_but h.grow hb ?_, own_but h.rrow hb ?_, own_but h.orow hb ?_, h.npm, h.npg, h.nmg, h.nf, fun i hi => Nat.lt_of_lt_of_le (h.fw i hi) hb.size, h.pin, h.min, h.rl, hn, h.il, hc, h.ol⟩
  · exact fun g e e1 => own_blk_ne h.prow h.blk (by decide) (by rw [e, e1])
  · exact fun g e e1 => own_blk_ne h.mrow h.blk (by decide) (by rw [e, e1])
  · exact fun g e e1 => own_blk_ne h.grow h.blk (by decide) (by rw [e, e1])
  · exact fun g e e1 => own_blk_ne h.rrow h.blk (by decide) (by rw [e, e1])
  · exact fun g e e1 => own_blk_ne h.orow h.blk (by decide) (by rw [e, e1])
theorem MachIn.setI (h : MachIn F w mb K s a) {its : List RItem} {nx : Nat} {AI : Option Addr} {cI : Nat} (hg : w.grownBy w' (some mb)) (hB : Blk w' mb 121 (machC K { s with its := its, nx := nx } { a with AI := AI, cI := cI })) (hn : nx ≤ its.length) (hi : its.length ≤ 200000000)
    (hI : w.ownsRow 0 222 12 (.slice AI its.length cI) its.length (itemsV its)) (hf : ∀ g, blkOf AI = some g → ¬ Mu mb a g) : MachIn (fun i => F i ∨ blkOf AI = some i) w' mb K { s with its := its, nx := nx } { a with AI := AI, cI := cI } := by
  have hb : But (fun i => i = mb) w w' := But.of_gr hg rfl
  have hF : Hg (fun i => F i ∨ blkOf AI = some i) w (fun W => FzAt W K { s with its := its, nx := nx } { a with AI := AI, cI := cI }) := by
    refine Hg.imp ((h.fz.mono (T := fun i => F i ∨ blkOf AI = some i) (fun i _ hi => .inl hi)).and (Hg.own (S := fun i => F i ∨ blkOf AI = some i) hI (fun g hg => .inr ((own_blkOf _ _ _).symm.trans hg)))) ?_
    rintro W ⟨hW, hi⟩
    exact ⟨hW.shp, hW.exs, hW.esl, hW.exr, hW.smp, hW.pln, hW.bks, hi, hW.rsl, hW.rsr⟩
  refine ⟨hB, hF.but hb ?_, own_but h.prow hb ?_, own_but h.mrow hb ?_, own_but h.grow hb ?_, own_but h.rrow hb ?_, own_but h.orow hb ?_, h.npm, h.npg, h.nmg, ?_, ?_, h.pin, h.min, h.rl, hn, hi, h.cl, h.ol⟩
  · rintro i _ (hi | hi) e
    · exact h.nf i (.inl e) hi
    · exact hf i hi (.inl e)
  · exact fun g e e1 => own_blk_ne h.prow h.blk (by decide) (by rw [e, e1])
  · exact fun g e e1 => own_blk_ne h.mrow h.blk (by decide) (by rw [e, e1])
  · exact fun g e e1 => own_blk_ne h.grow h.blk (by decide) (by rw [e, e1])
  · exact fun g e e1 => own_blk_ne h.rrow h.blk (by decide) (by rw [e, e1])
  · exact fun g e e1 => own_blk_ne h.orow h.blk (by decide) (by rw [e, e1])
  · rintro i hi (hF | hF)
    · exact h.nf i hi hF
    · exact hf i hF hi
  · rintro i (hi | hi)
    · exact Nat.lt_of_lt_of_le (h.fw i hi) hg.size
    · exact Nat.lt_of_lt_of_le (hI.lt i ((own_blkOf _ _ _).trans hi)).2 hg.size
end
section
open Go.RowKit
abbrev ExS := (Option Addr × Nat × Nat) × (Option Addr × Nat × Nat)
def exV (es : List ExS) : List Value := es.flatMap fun e => [.slice e.1.1 e.1.2.1 e.1.2.2, .slice e.2.1 e.2.2.1 e.2.2.2]
theorem exV_cons (e : ExS) (l : List ExS) : exV (e :: l) = .slice e.1.1 e.1.2.1 e.1.2.2 :: .slice e.2.1 e.2.2.1 e.2.2.2 :: exV l := rfl
theorem exV_get (l : List ExS) (k : Nat) (s : ExS) (hk : l[k]? = some s) : (exV l)[k * 2]? = some (.slice s.1.1 s.1.2.1 s.1.2.2) ∧ (exV l)[k * 2 + 1]? = some (.slice s.2.1 s.2.2.1 s.2.2.2) := by
  induction l generalizing k with
  | nil => simp at hk
  | cons r l ih =>
    rw [exV_cons]
    cases k with
    | zero =>
      obtain rfl : r = s := by simpa using hk
      exact ⟨rfl, rfl⟩
    | succ k =>
      have := ih k (by simpa using hk)
      rw [show (k + 1) * 2 = k * 2 + 2 by omega]
      simpa using this
theorem exV_rd {w : World} {S : Option Addr} {m k : Nat} {es : List ExS} {s : ExS} (h : Rd w 2 S m (exV es)) (hs : es[k]? = some s) (hk : k < m) : ∃ b o, S = some ⟨b, o, none⟩ ∧ b < w.heap.size ∧ w.cell? ⟨b, o + k * 2, none⟩ = some (.slice s.1.1 s.1.2.1 s.1.2.2) ∧ w.cell? ⟨b, o + k * 2 + 1, none⟩ = some (.slice s.2.1 s.2.2.1 s.2.2.2) := by
  obtain ⟨b, o, e, hlt, hc⟩ := h.2 (by omega)
  obtain ⟨g1, g2⟩ := exV_get es k s hs
  exact ⟨b, o, e, hlt, hc _ _ g1, by rw [Nat.add_assoc]; exact hc _ _ g2⟩
def fit1 (i o : Int) (e : ExS) : Bool := decide ((e.1.2.1 : Int) = i) && decide ((e.2.2.1 : Int) = o)
def fitsB (es : List ExS) (i o : Int) : Bool := es.all (fit1 i o)
theorem fits_here {es : List ExS} {i o : Int} {k : Nat} {e : ExS} (hk : es[k]? = some e) (h : fit1 i o e = false) : fitsB es i o = false := by
  cases hq : fitsB es i o with
  | false => rfl
  | true =>
    unfold fitsB at hq
    rw [List.all_eq_true] at hq
    rw [hq e (List.mem_of_getElem? hk)] at h
    cases h
theorem fits_all {es : List ExS} {i o : Int} {m : Nat} (hl : es.length = m) (h : ∀ k e, k < m → es[k]? = some e → fit1 i o e = true) : fitsB es i o = true := by
  unfold fitsB
  rw [List.all_eq_true]
  intro x hx
  obtain ⟨k, hk, rfl⟩ := List.mem_iff_getElem.1 hx
  exact h k _ (by omega) (List.getElem?_eq_getElem hk)
def NumOk (ok : Bool) (w : World) (e : Ending) (w' : World) : Prop := ∃ v : Int, e = .returned (.tuple #[.int .i64 v, .bool ok]) ∧ Below w.heap.size w w'
end
section
open Go.RowKit
variable (S : Option Addr) (m cS : Nat) (es : List ExS) (i o : Int) (w : World)
set_option maxHeartbeats 1000000 in
theorem check1_any (g1 g2 : Nat) (e : ExS) (h1 : Blk w g1 3 #[.int .i64 i]) (h2 : Blk w g2 3 #[.int .i64 o]) :
    Calls Tryz.prog 155 #[.agg #[.slice e.1.1 e.1.2.1 e.1.2.2, .slice e.2.1 e.2.2.1 e.2.2.2], .pointer (some ⟨g1, 0, none⟩), .pointer (some ⟨g2, 0, none⟩)] w fun en w' => en = .returned (.bool (!fit1 i o e)) ∧ Below w.heap.size w w' := by
  obtain ⟨⟨a, n, c⟩, ⟨a', n', c'⟩⟩ := e
  have q1 := h1.cell 0
  have q2 := h2.cell 0
  have l1 := h1.lt
  have l2 := h2.lt
  clear h1 h2
  have HK : Hid (Below w.heap.size w (w.alloc (.cells #[.slice a n c, .slice a' n' c'] 162))) := Lib.hid ((Below.refl _ _).alloc (Nat.le_refl _) _)
  by_cases e1 : (n : Int) = i
  · by_cases e2 : (n' : Int) = o
    · have f1 : ((n : Int) != i) = false := by simp [e1]
      have f2 : ((n' : Int) != o) = false := by simp [e2]
      have HQ : Hid ((!fit1 i o ((a, n, c), (a', n', c'))) = false) := Lib.hid (by simp [fit1, e1, e2])
      clear e1 e2
      go_enter Tryz.func155, Tryz.ntmps155
      go_wp2
      go_ret
      exact ⟨ret_bool HQ.out.symm, HK.out⟩
    · have f1 : ((n : Int) != i) = false := by simp [e1]
      have f2 : ((n' : Int) != o) = true := by simp [e2]
      have HQ : Hid ((!fit1 i o ((a, n, c), (a', n', c'))) = true) := Lib.hid (by simp [fit1, e1, e2])
      clear e1 e2
      go_enter Tryz.func155, Tryz.ntmps155
      go_wp2
      go_ret
      exact ⟨ret_bool HQ.out.symm, HK.out⟩
  · have f1 : ((n : Int) != i) = true := by simp [e1]
    have HQ : Hid ((!fit1 i o ((a, n, c), (a', n', c'))) = true) := Lib.hid (by simp [fit1, e1])
    clear e1
    go_enter Tryz.func155, Tryz.ntmps155
    go_wp2
    go_ret
    exact ⟨ret_bool HQ.out.symm, HK.out⟩
set_option maxHeartbeats 1000000 in
theorem indexEx_any (g1 g2 : Nat) (hl : es.length = m) (h : Rd w 2 S m (exV es)) (hm : m ≤ 1000000) (h1 : Blk w g1 3 #[.int .i64 i]) (h2 : Blk w g2 3 #[.int .i64 o]) :
    Calls Tryz.prog 154 #[.slice S m cS, .func (.func 155) #[] #[.pointer (some ⟨g1, 0, none⟩), .pointer (some ⟨g2, 0, none⟩)]] w fun e w' => ∃ v : Int, e = .returned (.int .i64 v) ∧ decide (v < 0) = fitsB es i o ∧ -1 ≤ v ∧ v ≤ 1000000 ∧ Below w.heap.size w w' := by
  have HL := Lib.hid hl
  have HR := Lib.hid h
  have HC := Lib.hid (fun W (hB : Below w.heap.size w W) e => check1_any i o W g1 g2 e (h1.kept hB) (h2.kept hB))
  clear hl h h1 h2
  go_enter Tryz.func154, Tryz.ntmps154
  go_wp2_with fail
  go_loopw [8] (fun c wr => ∃ k : Nat, k ≤ m ∧ c = .int .i64 k ∧ Hid (∀ j e, j < k → es[j]? = some e → fit1 i o e = true) ∧ Below w.heap.size w wr) (fun c _ => m - (intOf c).toNat)
  case atStart => exact ⟨0, by omega, rfl, Lib.hid (fun j x h => by omega), Below.refl _ _⟩
  case round =>
    obtain ⟨k, hk, rfl, he, hb⟩ := hrel
    by_cases hlt : k < m
    · obtain ⟨⟨⟨a, n, c⟩, ⟨a', n', c'⟩⟩, hs⟩ : ∃ s, es[k]? = some s := ⟨_, List.getElem?_eq_getElem (by rw [HL.out]; exact hlt)⟩
      obtain ⟨b, o', rfl, lb, c0, c1⟩ := exV_rd (HR.out.below hb) hs hlt
      have C := HC.out wr hb ((a, n, c), (a', n', c'))
      obtain ⟨q, hq⟩ : ∃ q, fit1 i o ((a, n, c), (a', n', c')) = q := ⟨_, rfl⟩
      rw [hq] at C
      have HQ := Lib.hid hq
      have HS := Lib.hid hs
      have HCC := Lib.hid C
      have HB := Lib.hid hb
      dsimp only at c0 c1
      clear hq hs C hb
      cases q
      · go_wp2_with fail
        ((with_reducible refine HCC.out.mono ?_); rintro e w1 ⟨rfl, hb1⟩)
        have HB1 := Lib.hid (HB.out.trans (hb1.mono HB.out.size))
        clear hb1
        go_wp2_with fail
        go_ret
        exact ⟨k, rfl, by rw [fits_here HS.out HQ.out]; simp, by omega, by omega, HB1.out⟩
      · go_wp2_with fail
        ((with_reducible refine HCC.out.mono ?_); rintro e w1 ⟨rfl, hb1⟩)
        have HB1 := Lib.hid (HB.out.trans (hb1.mono HB.out.size))
        clear hb1
        go_wp2_with fail
        go_roundw
        case rel =>
          refine ⟨k + 1, by omega, by go_num, Lib.hid (fun j y hj hy => ?_), HB1.out⟩
          by_cases hjk : j < k
          · exact he.out j y hjk hy
          · obtain rfl : j = k := by omega
            rw [HS.out] at hy
            injection hy with hy
            rw [← hy]
            exact HQ.out
        case measure => simp [intOf]; omega
    · obtain rfl : k = m := by omega
      have HB := Lib.hid hb
      clear hb
      go_wp2
      go_ret
      exact ⟨-1, rfl, by rw [fits_all HL.out he.out]; rfl, by omega, by omega, HB.out⟩
set_option maxHeartbeats 1000000 in
theorem dataCheck_any (hl : es.length = m) (h : Rd w 2 S m (exV es)) (hm : m ≤ 1000000) :
    Calls Tryz.prog 67 #[.slice S m cS, .int .i64 i, .int .i64 o] w (NumOk (fitsB es i o) w) := by
  obtain ⟨w0, hw0⟩ : ∃ w0, (w.alloc (.cells #[.int .i64 i] 3)).alloc (.cells #[.int .i64 o] 3) = w0 := ⟨_, rfl⟩
  have HW := Lib.hid hw0
  have hk0 : Below w.heap.size w w0 := by rw [← hw0]; exact ((Below.refl _ _).alloc (Nat.le_refl _) _).alloc (by simp) _
  have hb0 : Blk w0 w.heap.size 3 #[.int .i64 i] := by rw [← hw0]; exact (Blk.new w _ _).alloc _
  have hb1 : Blk w0 (w.heap.size + 1) 3 #[.int .i64 o] := by rw [← hw0]; exact Blk.new' _ _ (by simp)
  have HC := Lib.hid (indexEx_any S m cS es i o w0 w.heap.size (w.heap.size + 1) hl (h.below hk0) hm hb0 hb1)
  have HK := Lib.hid hk0
  clear hl h hk0 hb0 hb1 hw0
  go_enter Tryz.func67, Tryz.ntmps67
  go_wp2_with fail
  rw [HW.out]
  ((with_reducible refine HC.out.mono ?_); rintro e w1 ⟨v, rfl, hv, v1, v2, hb⟩)
  have HV := Lib.hid hv
  have HB := Lib.hid (HK.out.trans (hb.mono HK.out.size))
  clear hv hb
  by_cases hv0 : v < 0
  · have e1 : decide (v < 0) = true := decide_eq_true hv0
    have HT : Hid (fitsB es i o = true) := Lib.hid (by rw [← HV.out, e1])
    clear hv0
    go_wp2_with fail
    all_goals go_ret2
    all_goals exact ⟨_, by rw [HT.out]; rfl, HB.out⟩
  · have e1 : decide (v < 0) = false := decide_eq_false hv0
    have HT : Hid (fitsB es i o = false) := Lib.hid (by rw [← HV.out, e1])
    clear hv0
    go_wp2_with fail
    all_goals go_ret2
    all_goals exact ⟨_, by rw [HT.out]; rfl, HB.out⟩
end
section
open Go.RowKit
abbrev rplC (A : Option Addr) (n cap : Nat) (c : Cfg) (P : Int) : Array Value := #[.slice A n cap, .int .i64 c.sh, .int .i64 c.ra, .int .i64 c.mo, .int .i64 c.wk, .int .i64 c.ba, .int .i64 c.mi, .int .i64 c.st, .int .i64 c.bu, .int .i64 c.ch, .int .i64 c.wi, .int .i64 c.ca, .int .i64 P]
abbrev rplV (A : Option Addr) (n cap : Nat) (c : Cfg) (P : Int) : Value := .agg (rplC A n cap c P)
def rightB (l : List Int) (c : Cfg) (P : Int) : Bool := okCfg l c && (decide (1 ≤ P) && decide (P ≤ 1048576))
def fewPB (n : Nat) (l : List Int) (c : Cfg) (P : Int) : Bool := if 40 < n then false else if rightB l c P then decide (P ≤ 60) && (decide (c.wk ≤ 8) && (decide (c.mi ≤ 20) && decide (c.st ≤ 12))) else true
end
section
open Go.RowKit
variable (A : Option Addr) (n cap : Nat) (l : List Int) (c : Cfg) (P : Int) (w : World)
set_option maxHeartbeats 4000000 in
theorem refConf_any (hl : l.length = n) (h : Rd w 1 A n (iv l)) (hn : n ≤ 1000) :
    Calls Tryz.prog 34 #[cfgV A n cap c] w (CodeRet (okCfg l c) w) := by
  have HG : Hid (∀ W, w.alloc (.cells (cfgC A n cap c) 24) = W → Below w.heap.size w W ∧ Blk W w.heap.size 24 (cfgC A n cap c)) := Lib.hid (by
    rintro W rfl
    exact ⟨(Below.refl _ _).alloc (Nat.le_refl _) _, Blk.new _ _ _⟩)
  have HS := Lib.hid (fun W (r : Rd W 1 A n (iv l)) => refCheck08_any A n cap l W hl r hn)
  have HR := Lib.hid h
  have HZ := Lib.hid between_any
  obtain ⟨sh, ra, mo, wk, ba, mi, st, bu, ch, wi, ca⟩ := c
  obtain ⟨ok, hok⟩ : ∃ ok, okCfg l ⟨sh, ra, mo, wk, ba, mi, st, bu, ch, wi, ca⟩ = ok := ⟨_, rfl⟩
  have HOK : Hid ((btB wk 1 64 && (btB sh 1 62 && (sizesB l && (btB mi 1 1048576 && (btB bu 1 1048576 && (btB ch 1 1048576 && (btB wi 1 1048576 && (btB ca 1 1048576 && (btB st 0 1048576 && btB ba wk 1048576))))))))) = ok) := Lib.hid hok
  rw [hok]
  clear hl h hok
  go_enter Tryz.func34, Tryz.ntmps34
  go_wp2_with fail
  obtain ⟨w0, hw0⟩ : ∃ w0, w.alloc (.cells (cfgC A n cap ⟨sh, ra, mo, wk, ba, mi, st, bu, ch, wi, ca⟩) 24) = w0 := ⟨_, rfl⟩
  obtain ⟨hB, hK⟩ := HG.out _ hw0
  rw [hw0]
  clear hw0 HG
  obtain ⟨bc, hbc⟩ : ∃ bc, w.heap.size = bc := ⟨_, rfl⟩
  rw [hbc] at hK ⊢
  have HBC := Lib.hid hbc
  clear hbc
  have HB := Lib.hid hB
  have HK := Lib.hid hK
  have c0 : w0.cell? ⟨bc, 0, none⟩ = some (.slice A n cap) := hK.cell 0
  have c1 : w0.cell? ⟨bc, 1, none⟩ = some (.int .i64 sh) := hK.cell 1
  have c4 : w0.cell? ⟨bc, 4, none⟩ = some (.int .i64 wk) := hK.cell 4
  have lc := hK.lt
  clear hB hK
  have HD : Hid (∀ (code : Int) (W : World), code ≠ 0 → ok = false → Below w.heap.size w W → CodeRet ok w (.returned (.int .i64 code)) W) := Lib.hid (fun code W h1 h2 h3 => ⟨code, rfl, by rw [h2]; simp [h1], h3⟩)
  ((with_reducible refine (HZ.out wk 1 64 w0).mono ?_); rintro e w2 ⟨rfl, rfl⟩)
  obtain ⟨q1, hq1⟩ : ∃ q, btB wk 1 64 = q := ⟨_, rfl⟩
  rw [hq1]
  rw [hq1] at HOK
  clear hq1
  cases q1
  · go_wp2_with fail
    go_ret
    exact HD.out 6 _ (by omega) (by rw [← HOK.out]; rfl) HB.out
  · go_wp2_with fail
    ((with_reducible refine (HZ.out sh 1 62 w0).mono ?_); rintro e w2 ⟨rfl, rfl⟩)
    obtain ⟨q2, hq2⟩ : ∃ q, btB sh 1 62 = q := ⟨_, rfl⟩
    rw [hq2]
    rw [hq2] at HOK
    clear hq2
    cases q2
    · go_wp2_with fail
      go_ret
      exact HD.out 9 _ (by omega) (by rw [← HOK.out]; rfl) HB.out
    · go_wp2_with fail
      ((with_reducible refine (HS.out _ (HR.out.below (by rw [HBC.out]; exact HBC.out ▸ HB.out))).mono ?_); rintro e w1 ⟨cd, rfl, hcd, hb1⟩)
      have HCD := Lib.hid hcd
      have k1 := HK.out.kept hb1
      have HK1 := Lib.hid k1
      have HB1 := Lib.hid (HB.out.trans (hb1.mono HB.out.size))
      clear hcd hb1 c0 c1 c4 lc HK HB
      by_cases h0 : cd = 0
      · subst h0
        have hsz := HCD.out.1 rfl
        rw [hsz] at HOK
        have c4 : w1.cell? ⟨bc, 4, none⟩ = some (.int .i64 wk) := k1.cell 4
        have c5 : w1.cell? ⟨bc, 5, none⟩ = some (.int .i64 ba) := k1.cell 5
        have c6 : w1.cell? ⟨bc, 6, none⟩ = some (.int .i64 mi) := k1.cell 6
        have c7 : w1.cell? ⟨bc, 7, none⟩ = some (.int .i64 st) := k1.cell 7
        have c8 : w1.cell? ⟨bc, 8, none⟩ = some (.int .i64 bu) := k1.cell 8
        have c9 : w1.cell? ⟨bc, 9, none⟩ = some (.int .i64 ch) := k1.cell 9
        have c10 : w1.cell? ⟨bc, 10, none⟩ = some (.int .i64 wi) := k1.cell 10
        have c11 : w1.cell? ⟨bc, 11, none⟩ = some (.int .i64 ca) := k1.cell 11
        have lc := k1.lt
        obtain ⟨s1, hs1⟩ : ∃ s1, IntKind.i64.wrap (st + 1) = s1 := ⟨_, rfl⟩
        have HNB : Hid (∀ W, w1.alloc (.cells #[.int .i64 mi, .int .i64 bu, .int .i64 ch, .int .i64 wi, .int .i64 ca, .int .i64 s1] 3) = W → Below w1.heap.size w1 W ∧ Blk W w1.heap.size 3 #[.int .i64 mi, .int .i64 bu, .int .i64 ch, .int .i64 wi, .int .i64 ca, .int .i64 s1]) := Lib.hid (by
          rintro W rfl
          exact ⟨(Below.refl _ _).alloc (Nat.le_refl _) _, Blk.new _ _ _⟩)
        clear k1 hsz
        by_cases hs0 : st < 0
        · have e1 : decide (st < 0) = true := decide_eq_true hs0
          go_wp2_with fail
          go_ret
          exact HD.out 2 _ (by omega) (by rw [← HOK.out]; simp [btB]; intros; omega) (HB1.out.alloc HB1.out.size _)
        · have e1 : decide (st < 0) = false := decide_eq_false hs0
          by_cases hs2 : 1048576 < st
          · have e2 : decide (1048576 < st) = true := decide_eq_true hs2
            go_wp2_with fail
            go_ret
            exact HD.out 2 _ (by omega) (by rw [← HOK.out]; simp [btB]; intros; omega) (HB1.out.alloc HB1.out.size _)
          · have e2 : decide (1048576 < st) = false := decide_eq_false hs2
            have hst : btB st 0 1048576 = true := by simp [btB]; omega
            rw [hst] at HOK
            clear hst
            go_wp2_with fail
            obtain ⟨w3, hw3⟩ : ∃ w3, w1.alloc (.cells #[.int .i64 mi, .int .i64 bu, .int .i64 ch, .int .i64 wi, .int .i64 ca, .int .i64 s1] 3) = w3 := ⟨_, rfl⟩
            obtain ⟨hb3, hl3⟩ := HNB.out _ hw3
            rw [hw3]
            have HB3 := Lib.hid (HB1.out.trans (hb3.mono HB1.out.size))
            have HK3 := Lib.hid (HK1.out.kept hb3)
            obtain ⟨lb, hlb⟩ : ∃ lb, w1.heap.size = lb := ⟨_, rfl⟩
            rw [hlb] at hl3 ⊢
            have HL3 := Lib.hid hl3
            clear hlb hw3 hb3 hl3 HNB hs1 c4 c5 c6 c7 c8 c9 c10 c11 lc e1 e2 HB1 HK1
            have HE : Hid (∀ k : Nat, k < 5 → ∃ y, w3.cell? ⟨lb, k, none⟩ = some (.int .i64 y) ∧ [mi, bu, ch, wi, ca][k]? = some y) := Lib.hid (fun k hk => by
              match k, hk with
              | 0, _ => exact ⟨mi, HL3.out.cell 0, rfl⟩
              | 1, _ => exact ⟨bu, HL3.out.cell 1, rfl⟩
              | 2, _ => exact ⟨ch, HL3.out.cell 2, rfl⟩
              | 3, _ => exact ⟨wi, HL3.out.cell 3, rfl⟩
              | 4, _ => exact ⟨ca, HL3.out.cell 4, rfl⟩)
            have HF : Hid (∀ (k : Nat) (y : Int), [mi, bu, ch, wi, ca][k]? = some y → btB y 1 1048576 = false → ok = false) := Lib.hid (fun k y hy hf => by
              have := HOK.out
              match k, hy with
              | 0, hy => injection hy with hy; subst hy; rw [← this, hf]; simp
              | 1, hy => injection hy with hy; subst hy; rw [← this, hf]; simp
              | 2, hy => injection hy with hy; subst hy; rw [← this, hf]; simp
              | 3, hy => injection hy with hy; subst hy; rw [← this, hf]; simp
              | 4, hy => injection hy with hy; subst hy; rw [← this, hf]; simp)
            have HT : Hid ((∀ (j : Nat) (y : Int), j < 5 → [mi, bu, ch, wi, ca][j]? = some y → btB y 1 1048576 = true) → btB ba wk 1048576 = ok) := Lib.hid (fun hall => by
              have h0 := hall 0 mi (by omega) rfl
              have h1 := hall 1 bu (by omega) rfl
              have h2 := hall 2 ch (by omega) rfl
              have h3 := hall 3 wi (by omega) rfl
              have h4 := hall 4 ca (by omega) rfl
              rw [← HOK.out, h0, h1, h2, h3, h4]
              simp)
            have llb := HL3.out.lt
            go_loopw [5] (fun i wr => ∃ k : Nat, k ≤ 5 ∧ i = .int .i64 k ∧ wr = w3 ∧ Hid (∀ (j : Nat) (y : Int), j < k → [mi, bu, ch, wi, ca][j]? = some y → btB y 1 1048576 = true)) (fun i _ => 5 - (intOf i).toNat)
            case atStart => exact ⟨0, by omega, rfl, rfl, Lib.hid (fun j y h => by omega)⟩
            case round =>
              obtain ⟨k, hk, rfl, hwr, he⟩ := hrel
              subst hwr
              by_cases hlt : k < 5
              · obtain ⟨y, hy1, hy2⟩ := HE.out k hlt
                have HY := Lib.hid hy2
                have i1 : (k : Int) < 5 := by omega
                have i2 : (0 : Int) ≤ (k : Int) := by omega
                have i3 : (k : Int) < 6 := by omega
                clear hy2
                go_wp2_with fail
                ((with_reducible refine (HZ.out y 1 1048576 _).mono ?_); rintro e w2 ⟨rfl, rfl⟩)
                obtain ⟨q3, hq3⟩ : ∃ q, btB y 1 1048576 = q := ⟨_, rfl⟩
                rw [hq3]
                have HQ3 := Lib.hid hq3
                clear hq3
                cases q3
                · go_wp2_with fail
                  go_ret
                  exact HD.out 2 _ (by omega) (HF.out k y HY.out HQ3.out) HB3.out
                · go_wp2_with fail
                  go_roundw
                  case rel =>
                    refine ⟨k + 1, by omega, by go_num, trivial, Lib.hid (fun j z hj hz => ?_)⟩
                    by_cases hjk : j < k
                    · exact he.out j z hjk hz
                    · obtain rfl : j = k := by omega
                      rw [HY.out] at hz
                      injection hz with hz
                      subst hz
                      exact HQ3.out
                  case measure => simp [intOf]; omega
              · obtain rfl : k = 5 := by omega
                have c4 : wr.cell? ⟨bc, 4, none⟩ = some (.int .i64 wk) := HK3.out.cell 4
                have c5 : wr.cell? ⟨bc, 5, none⟩ = some (.int .i64 ba) := HK3.out.cell 5
                have lc := HK3.out.lt
                have HOB := Lib.hid (HT.out he.out)
                clear he
                go_wp2_with fail
                ((with_reducible refine (HZ.out ba wk 1048576 _).mono ?_); rintro e w2 ⟨rfl, rfl⟩)
                obtain ⟨q3, hq3⟩ : ∃ q, btB ba wk 1048576 = q := ⟨_, rfl⟩
                rw [hq3]
                rw [hq3] at HOB
                clear hq3
                cases q3
                · go_wp2_with fail
                  go_ret
                  exact HD.out 7 _ (by omega) HOB.out.symm HB3.out
                · go_wp2_with fail
                  go_ret
                  exact ⟨0, rfl, by rw [← HOB.out]; simp, HB3.out⟩
      · have hsz : sizesB l = false := by
          cases hq : sizesB l with
          | false => rfl
          | true => exact absurd (HCD.out.2 hq) h0
        rw [hsz] at HOK
        have e5 : (cd != 0) = true := by simp [h0]
        clear hsz
        go_wp2_with fail
        go_ret
        exact HD.out cd _ h0 (by rw [← HOK.out]; simp) HB1.out
set_option maxHeartbeats 1000000 in
theorem refRight_any_PlanRef1 (hl : l.length = n) (h : Rd w 1 A n (iv l)) (hn : n ≤ 1000) :
    Calls Tryz.prog 179 #[rplV A n cap c P] w fun e w' => e = .returned (.bool (rightB l c P)) ∧ Below w.heap.size w w' := by
  have HG : Hid (∀ W, w.alloc (.cells (rplC A n cap c P) 172) = W → Below w.heap.size w W ∧ Blk W w.heap.size 172 (rplC A n cap c P)) := Lib.hid (by
    rintro W rfl
    exact ⟨(Below.refl _ _).alloc (Nat.le_refl _) _, Blk.new _ _ _⟩)
  have HC := Lib.hid (fun W (r : Rd W 1 A n (iv l)) => refConf_any A n cap l c W hl r hn)
  have HR := Lib.hid h
  obtain ⟨q, hq⟩ : ∃ q, rightB l c P = q := ⟨_, rfl⟩
  have HQ := Lib.hid hq
  rw [hq]
  clear hl h hq
  go_enter Tryz.func179, Tryz.ntmps179
  go_wp2_with fail
  obtain ⟨w0, hw0⟩ : ∃ w0, w.alloc (.cells (rplC A n cap c P) 172) = w0 := ⟨_, rfl⟩
  obtain ⟨hB, hK⟩ := HG.out _ hw0
  rw [hw0]
  clear hw0 HG
  have HB := Lib.hid hB
  have HK := Lib.hid hK
  ((with_reducible refine (HC.out _ (HR.out.below hB)).mono ?_); rintro e w1 ⟨cd, rfl, hcd, hb1⟩)
  have k1 := HK.out.kept hb1
  have HB1 := Lib.hid (HB.out.trans (hb1.mono HB.out.size))
  have HCD := Lib.hid hcd
  have c12 : w1.cell? ⟨w.heap.size, 12, none⟩ = some (.int .i64 P) := k1.cell 12
  have lc := k1.lt
  clear hB hK hcd hb1 k1 HB HK
  by_cases h0 : cd = 0
  · subst h0
    have HO := Lib.hid (HCD.out.1 rfl)
    by_cases h1 : 1 ≤ P
    · have e1 : decide (1 ≤ P) = true := decide_eq_true h1
      by_cases h2 : P ≤ 1048576
      · have e2 : decide (P ≤ 1048576) = true := decide_eq_true h2
        go_wp2_with fail
        go_ret
        exact ⟨ret_bool (by rw [← HQ.out]; simp only [rightB, HO.out, e1, e2, Bool.and_true, Bool.true_and]), HB1.out⟩
      · have e2 : decide (P ≤ 1048576) = false := decide_eq_false h2
        go_wp2_with fail
        go_ret
        exact ⟨ret_bool (by rw [← HQ.out]; simp only [rightB, e2, Bool.and_false]), HB1.out⟩
    · have e1 : decide (1 ≤ P) = false := decide_eq_false h1
      go_wp2_with fail
      go_ret
      exact ⟨ret_bool (by rw [← HQ.out]; simp only [rightB, e1, Bool.false_and, Bool.and_false]), HB1.out⟩
  · have hno : okCfg l c = false := by
      cases hh : okCfg l c with
      | false => rfl
      | true => exact absurd (HCD.out.2 hh) h0
    have HO := Lib.hid hno
    have e5 : (cd == 0) = false := by simp [h0]
    clear hno
    go_wp2_with fail
    go_ret
    exact ⟨ret_bool (by rw [← HQ.out]; simp only [rightB, HO.out, Bool.false_and]), HB1.out⟩
set_option maxHeartbeats 2000000 in
theorem refFew_any (hl : l.length = n) (h : Rd w 1 A n (iv l)) :
    Calls Tryz.prog 96 #[rplV A n cap c P] w fun e w' => e = .returned (.bool (fewPB n l c P)) ∧ Below w.heap.size w w' := by
  have HG : Hid (∀ W, w.alloc (.cells (rplC A n cap c P) 172) = W → Below w.heap.size w W ∧ Blk W w.heap.size 172 (rplC A n cap c P)) := Lib.hid (by
    rintro W rfl
    exact ⟨(Below.refl _ _).alloc (Nat.le_refl _) _, Blk.new _ _ _⟩)
  have HR := Lib.hid h
  have HL := Lib.hid hl
  obtain ⟨q, hq⟩ : ∃ q, fewPB n l c P = q := ⟨_, rfl⟩
  have HQ := Lib.hid hq
  rw [hq]
  by_cases h40 : 40 < n
  · have e1 : decide ((40 : Int) < (n : Int)) = true := decide_eq_true (by omega)
    have e2 : decide ((n : Int) ≤ 40) = false := decide_eq_false (by omega)
    clear hl h hq
    go_enter Tryz.func96, Tryz.ntmps96
    go_wp2_with fail
    go_ret
    exact ⟨ret_bool (by rw [← HQ.out, fewPB, if_pos h40]), (Below.refl _ _).alloc (Nat.le_refl _) _⟩
  · have e1 : decide ((40 : Int) < (n : Int)) = false := decide_eq_false (by omega)
    have e2 : decide ((n : Int) ≤ 40) = true := decide_eq_true (by omega)
    have HRi := Lib.hid (fun W (r : Rd W 1 A n (iv l)) => refRight_any_PlanRef1 A n cap l c P W hl r (by omega))
    clear hl h hq
    go_enter Tryz.func96, Tryz.ntmps96
    go_wp2_with fail
    obtain ⟨w0, hw0⟩ : ∃ w0, w.alloc (.cells (rplC A n cap c P) 172) = w0 := ⟨_, rfl⟩
    obtain ⟨hB, hK⟩ := HG.out _ hw0
    rw [hw0]
    clear hw0 HG
    have HB := Lib.hid hB
    have HK := Lib.hid hK
    ((with_reducible refine (HRi.out _ (HR.out.below hB)).mono ?_); rintro e w1 ⟨rfl, hb1⟩)
    have k1 := HK.out.kept hb1
    have HB1 := Lib.hid (HB.out.trans (hb1.mono HB.out.size))
    have c0 : w1.cell? ⟨w.heap.size, 0, none⟩ = some (.slice A n cap) := k1.cell 0
    have c4 : w1.cell? ⟨w.heap.size, 4, none⟩ = some (.int .i64 c.wk) := k1.cell 4
    have c6 : w1.cell? ⟨w.heap.size, 6, none⟩ = some (.int .i64 c.mi) := k1.cell 6
    have c7 : w1.cell? ⟨w.heap.size, 7, none⟩ = some (.int .i64 c.st) := k1.cell 7
    have c12 : w1.cell? ⟨w.heap.size, 12, none⟩ = some (.int .i64 P) := k1.cell 12
    have lc := k1.lt
    clear hB hK hb1 k1 HB HK
    obtain ⟨rq, hrq⟩ : ∃ rq, rightB l c P = rq := ⟨_, rfl⟩
    rw [hrq]
    have HRQ := Lib.hid hrq
    clear hrq
    cases rq
    · go_wp2_with fail
      go_ret
      exact ⟨ret_bool (by rw [← HQ.out, fewPB, if_neg h40, HRQ.out]; rfl), HB1.out⟩
    · have HF : Hid (fewPB n l c P = (decide (P ≤ 60) && (decide (c.wk ≤ 8) && (decide (c.mi ≤ 20) && decide (c.st ≤ 12))))) := Lib.hid (by rw [fewPB, if_neg h40, HRQ.out]; rfl)
      by_cases f1 : P ≤ 60
      · have g1 : decide (P ≤ 60) = true := decide_eq_true f1
        by_cases f2 : c.wk ≤ 8
        · have g2 : decide (c.wk ≤ 8) = true := decide_eq_true f2
          by_cases f3 : c.mi ≤ 20
          · have g3 : decide (c.mi ≤ 20) = true := decide_eq_true f3
            by_cases f4 : c.st ≤ 12
            · have g4 : decide (c.st ≤ 12) = true := decide_eq_true f4
              go_wp2_with fail
              go_ret
              exact ⟨ret_bool (by rw [← HQ.out, HF.out, g1, g2, g3, g4]; rfl), HB1.out⟩
            · have g4 : decide (c.st ≤ 12) = false := decide_eq_false f4
              go_wp2_with fail
              go_ret
              exact ⟨ret_bool (by rw [← HQ.out, HF.out, g4, Bool.and_false, Bool.and_false, Bool.and_false]), HB1.out⟩
          · have g3 : decide (c.mi ≤ 20) = false := decide_eq_false f3
            go_wp2_with fail
            go_ret
            exact ⟨ret_bool (by rw [← HQ.out, HF.out, g3, Bool.false_and, Bool.and_false, Bool.and_false]), HB1.out⟩
        · have g2 : decide (c.wk ≤ 8) = false := decide_eq_false f2
          go_wp2_with fail
          go_ret
          exact ⟨ret_bool (by rw [← HQ.out, HF.out, g2, Bool.false_and, Bool.and_false]), HB1.out⟩
      · have g1 : decide (P ≤ 60) = false := decide_eq_false f1
        go_wp2_with fail
        go_ret
        exact ⟨ret_bool (by rw [← HQ.out, HF.out, g1, Bool.false_and]), HB1.out⟩
end
section
open Go.RowKit
theorem store_one {w : World} {base : Nat} {e : TypeId} {g n cap : Nat} {l : List Int} (h : w.ownsRow base e 1 (.slice (some ⟨g, 0, none⟩) n cap) n (iv l)) (j : Nat) (y : Int) :
    (w.setCell ⟨g, j, none⟩ (.int .i64 y)).ownsRow base e 1 (.slice (some ⟨g, 0, none⟩) n cap) n (iv (l.set j y)) ∧ w.grownBy (w.setCell ⟨g, j, none⟩ (.int .i64 y)) (some g) := by
  have h := h.stored j (.int .i64 y)
  rw [iv_set] at h
  exact h
theorem cell_iv {w : World} {base : Nat} {e : TypeId} {g n cap k : Nat} {l : List Int} {x : Int} (h : w.ownsRow base e 1 (.slice (some ⟨g, 0, none⟩) n cap) n (iv l)) (hk : k < n) (hx : l[k]? = some x) : w.cell? ⟨g, k, none⟩ = some (.int .i64 x) :=
  (h.cellAt k (by omega)).trans (by rw [iv, List.getElem?_map, hx]; rfl)
end
end Go.Proofs.YtkmaeipoaoikpaaGreat
