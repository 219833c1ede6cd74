/-
  Lemmas and contracts (25): Link5, Draw, Cyc, Sgd7, Draw2, PermShuf, SmpNew1.
-/
import Derived.WalkKit
import Derived.WalkSpells
import Derived.WalkLawsBesides
import Derived.Lib.Hide
import Derived.Deep.QuietTactic
import Derived.BigQuiet
import Derived.IntWalk
import Derived.Deep.RegionHeld3
import Derived.Maps.AppendAt
import Derived.ProofKit
import Derived.OpenShut
import Derived.Deep.Slices
import Derived.Deep.Fields
import Derived.Laws.OwnMore
import Derived.Deep.Draws
import Derived.Laws.Rows
import Derived.Test.YtkmaeipoaoikpaaGreatProg
import Derived.Laws.EntriesVeiled
import Derived.RangeFuncNested
import Derived.RangeFuncBox
import Derived.RangeFuncLeaves
import Derived.Shelf.Abstract
import Derived.OwnWalkIn
import Derived.TacticsInMore
import Derived.LoopNIn
import Derived.LoopIn
import Derived.StillTail
import Derived.OrdersIn
import Derived.RangeFuncCalls
import Derived.OrdersHeld
import Derived.Laws.Bits64
import Derived.Laws.BitsAllLaws
import Derived.Test.YtkmaeipoaoikpaaGreatShelf
import Derived.Deep.DeepCutAuto
import Derived.RangeFuncFrom
import Derived.Maps.Own
import Derived.Maps.Views
import Derived.Maps.Keyed
import Derived.Maps.OwnOps
import Derived.Maps.Ext
import Derived.Carry
import Derived.Deep.OwnRows
import Derived.Test.YtkmaeipoaoikpaaGreatEA01
import Derived.Test.YtkmaeipoaoikpaaGreatEA02
import Derived.Test.YtkmaeipoaoikpaaGreatEA03
import Derived.Test.YtkmaeipoaoikpaaGreatEA04
import Derived.Test.YtkmaeipoaoikpaaGreatEA05
import Derived.Test.YtkmaeipoaoikpaaGreatEA07
import Derived.Test.YtkmaeipoaoikpaaGreatEA08
import Derived.Test.YtkmaeipoaoikpaaGreatEA12
import Derived.Test.YtkmaeipoaoikpaaGreatEA22
import Derived.Test.YtkmaeipoaoikpaaGreatEA23
import Derived.Test.YtkmaeipoaoikpaaGreatEA24
namespace Go.Proofs.YtkmaeipoaoikpaaGreat
set_option linter.unusedVariables false
set_option linter.unusedSimpArgs false
set_option maxRecDepth 100000
section
open Go.RowKit
theorem bcell' {a w w' : World} (h : Below a.heap.size w w') (hs : a.heap.size = w.heap.size) : ∀ b o, b < w.heap.size → w'.cell? ⟨b, o, none⟩ = w.cell? ⟨b, o, none⟩ := fun b o hb => h.cell (p := ⟨b, o, none⟩) (by rw [hs]; exact hb)
def RecvRet (S : Nat → Prop) (w : World) (b cp s r : Nat) (q : List (TagN × List Int)) (t : TagN) (vs : List Int) (e : Ending) (w' : World) : Prop :=
  ∃ A n c, e = .returned (.tuple #[.agg #[.int .i64 t.1, .int .i64 t.2.1, .int .i64 t.2.2.1, .int .i64 t.2.2.2.1, .int .i64 t.2.2.2.2, .slice A n c], .int .i64 0]) ∧ LinkAt S w' b cp s (r + 1) q ∧ But (fun x => x = b) w w' ∧ w'.ownsRow 0 2 1 (.slice A n c) n (iv vs) ∧ n ≤ 1000000 ∧ (∀ g, (Value.slice A n c).ownBlock = some g → S g)
theorem But.setc {S : Nat → Prop} {a w : World} (h : But S a w) {p : Addr} (hp : a.heap.size ≤ p.block) (u : Value) : But S a (w.setCell p u) :=
  ⟨h.os, h.tape, h.output, by simpa [World.setCell] using h.size, fun i hi hn => (Below.heap_setCell w p u i (by omega)).trans (h.block i hi hn)⟩
theorem recv_fin {S : Nat → Prop} {w w9 : World} {b cp s r n c nm cm : Nat} {q : List (TagN × List Int)} {A Am : Option Addr} {pk : Int} {ms : List MsgS} {t : TagN} {vs : List Int} (h : LinkIn S w b cp s r ((t, vs) :: q) A n c pk ms)
    (hV : w.ownsRow 0 2 1 (.slice Am nm cm) nm (iv vs)) (hVS : ∀ g, (Value.slice Am nm cm).ownBlock = some g → S g) (hnm : nm ≤ 1000000) (hbut : But (fun x => x = b) w w9) (hL : Blk w9 b 243 (lnkC A n c cp s (r + 1) pk)) :
    RecvRet S w b cp s r q t vs (.returned (.tuple #[.agg #[.int .i64 t.1, .int .i64 t.2.1, .int .i64 t.2.2.1, .int .i64 t.2.2.2.1, .int .i64 t.2.2.2.2, .slice Am nm cm], .int .i64 0])) w9 := by
  have hql := h.ql
  simp at hql
  have hrm := h.room
  refine ⟨Am, nm, cm, rfl, ⟨A, n, c, pk, ms, h.sb, hL, own_but h.own hbut (fun g hg e => ?_), h.so, h.len, h.nn, by omega, by omega, by omega, h.s9, h.cp1, h.cp2, fun j hj => ?_⟩, hbut, own_but hV hbut (fun g hg e => ?_), hnm, hVS⟩
  · subst e; exact own_blk_ne h.own h.blk (by decide) hg
  · obtain ⟨m, vs', h1, h2, h3, h4, h5⟩ := h.get (j + 1) (by omega)
    refine ⟨m, vs', by rw [show r + 1 + j = r + (j + 1) by omega]; exact h1, by simpa using h2, own_but h3 hbut (fun g hg e => ?_), h4, h5⟩
    subst e; exact own_blk_ne h3 h.blk (by decide) hg
  · subst e; exact own_blk_ne hV h.blk (by decide) hg
set_option maxHeartbeats 2000000 in
theorem linkRecv_some (S : Nat → Prop) (b cp s r : Nat) (q : List (TagN × List Int)) (t : TagN) (vs : List Int) (w : World) (h : LinkAt S w b cp s r ((t, vs) :: q)) :
    Calls Tryz.prog 265 #[.pointer (some ⟨b, 0, none⟩), .agg #[.int .i64 t.1, .int .i64 t.2.1, .int .i64 t.2.2.1, .int .i64 t.2.2.2.1, .int .i64 t.2.2.2.2]] w (RecvRet S w b cp s r q t vs) := by
  obtain ⟨A, n, c, pk, ms, h⟩ := h
  have hrs : r < s := by have := h.ql; simp at this; omega
  obtain ⟨m, vs', hm, hq, hV, hVS, hmn⟩ := h.get 0 (by omega)
  rw [Nat.add_zero] at hm
  have hq2 : (t, vs) = (m.1, vs') := by simpa using hq
  injection hq2 with hq3 hq4
  subst hq4
  obtain ⟨mt, Am, nm, cm⟩ := m
  obtain rfl : t = mt := hq3
  obtain ⟨t1, t2, t3, t4, t5⟩ := t
  dsimp only at hV hVS hmn hm ⊢
  obtain ⟨p, hp⟩ : ∃ p, r % cp = p := ⟨_, rfl⟩
  have hs9 := h.s9
  have HPK' : ∀ W, Below w.heap.size w W → Calls Tryz.prog 279 #[.pointer (some ⟨b, 0, none⟩)] W fun e w' => e = .returned (.tuple #[.agg #[.int .i64 t1, .int .i64 t2, .int .i64 t3, .int .i64 t4, .int .i64 t5], .bool true]) ∧ Below W.heap.size W w' := (fun W (k : Below w.heap.size w W) => linkPeek_some A n c cp s r pk b W ms _ 0 (h.blk.kept k) hrs (by omega) h.cp1 h.cp2 (own_below h.own k) hm h.len)
  have HPK := Lib.hid HPK'
  clear HPK'
  rw [hp] at hm
  have hpn : p < n := by rw [← h.len]; exact (List.getElem?_eq_some_iff.1 hm).1
  obtain ⟨g, rfl, lg, hc⟩ := own_msg h.own hm hpn
  have q0 : w.cell? ⟨g, p * 6, none⟩ = some (.int .i64 t1) := hc 0 (by omega)
  have q1 : w.cell? ⟨g, p * 6 + 1, none⟩ = some (.int .i64 t2) := hc 1 (by omega)
  have q2 : w.cell? ⟨g, p * 6 + 2, none⟩ = some (.int .i64 t3) := hc 2 (by omega)
  have q3 : w.cell? ⟨g, p * 6 + 3, none⟩ = some (.int .i64 t4) := hc 3 (by omega)
  have q4 : w.cell? ⟨g, p * 6 + 4, none⟩ = some (.int .i64 t5) := hc 4 (by omega)
  have q5 : w.cell? ⟨g, p * 6 + 5, none⟩ = some (.slice Am nm cm) := hc 5 (by omega)
  have c0 : w.cell? ⟨b, 0, none⟩ = some (.slice (some ⟨g, 0, none⟩) n c) := h.blk.cell 0
  have c3 : w.cell? ⟨b, 3, none⟩ = some (.int .i64 r) := h.blk.cell 3
  have lb := h.blk.lt
  have hcp1 := h.cp1
  have hcp2 := h.cp2
  have HPL := Lib.hid (fun W (k : Kept w W) => by
    have := linkPlace_any (some ⟨g, 0, none⟩) n c cp s r pk b W r (h.blk.kept k.2.2) hcp1 hcp2 (by omega)
    rw [hp] at this
    exact this)
  have HI := Lib.hid h
  have HV := Lib.hid hV
  have HVS := Lib.hid hVS
  have i1 : (0 : Int) ≤ (p : Int) := by omega
  have i2 : (p : Int) < (n : Int) := by omega
  obtain ⟨w0, hw0⟩ : ∃ w0, (w.alloc (.cells #[.int .i64 t1, .int .i64 t2, .int .i64 t3, .int .i64 t4, .int .i64 t5] 216)).alloc (.cells #[.int .i64 0, .int .i64 0, .int .i64 0, .int .i64 0, .int .i64 0, .slice none 0 0] 259) = w0 := ⟨_, rfl⟩
  have HW0 := Lib.hid hw0
  have HB0 : Hid (Below w.heap.size w w0) := Lib.hid (by rw [← hw0]; exact ((Below.refl _ _).alloc (Nat.le_refl _) _).alloc (by simp) _)
  have HT0 : Hid (Blk w0 w.heap.size 216 #[.int .i64 t1, .int .i64 t2, .int .i64 t3, .int .i64 t4, .int .i64 t5]) := Lib.hid (by rw [← hw0]; exact (Blk.new w _ _).alloc _)
  have HM0 : Hid (Blk w0 (w.heap.size + 1) 259 #[.int .i64 0, .int .i64 0, .int .i64 0, .int .i64 0, .int .i64 0, .slice none 0 0]) := Lib.hid (by rw [← hw0]; exact Blk.new' _ _ (by simp))
  clear hc h hm hp hV hVS hw0 hq
  go_enter Tryz.func265, Tryz.ntmps265
  go_wp2_with fail
  rw [HW0.out]
  ((with_reducible refine (HPK.out w0 HB0.out).mono ?_); rintro e w1 ⟨rfl, hb1⟩)
  have HB1 := Lib.hid (HB0.out.trans (hb1.mono HB0.out.size))
  have HT1 := Lib.hid (HT0.out.kept hb1)
  have HM1 := Lib.hid (HM0.out.kept hb1)
  obtain ⟨w2, hw2⟩ : ∃ w2, w1.alloc (.cells #[.int .i64 t1, .int .i64 t2, .int .i64 t3, .int .i64 t4, .int .i64 t5] 216) = w2 := ⟨_, rfl⟩
  have hz1 := HB1.out.size
  have HB2 : Hid (Below w.heap.size w w2) := Lib.hid (by rw [← hw2]; exact HB1.out.alloc hz1 _)
  have HT2 : Hid (Blk w2 w.heap.size 216 #[.int .i64 t1, .int .i64 t2, .int .i64 t3, .int .i64 t4, .int .i64 t5]) := Lib.hid (by rw [← hw2]; exact HT1.out.alloc _)
  have HM2 : Hid (Blk w2 (w.heap.size + 1) 259 #[.int .i64 0, .int .i64 0, .int .i64 0, .int .i64 0, .int .i64 0, .slice none 0 0]) := Lib.hid (by rw [← hw2]; exact HM1.out.alloc _)
  have HN2 : Hid (Blk w2 w1.heap.size 216 #[.int .i64 t1, .int .i64 t2, .int .i64 t3, .int .i64 t4, .int .i64 t5]) := Lib.hid (by rw [← hw2]; exact Blk.new _ _ _)
  have HW2 := Lib.hid hw2
  have HTL := Lib.hid HT1.out.lt
  clear hw2 hb1
  have s0 := HT1.out.cell 0
  have s1 := HT1.out.cell 1
  have s2 := HT1.out.cell 2
  have s3 := HT1.out.cell 3
  have s4 := HT1.out.cell 4
  have sl := HT1.out.lt
  go_wp2_with fail
  rw [HW2.out]
  clear s0 s1 s2 s3 s4 sl
  have hc2 := bcell' HB2.out rfl
  rw [← hc2 b 0 lb] at c0
  rw [← hc2 b 3 lb] at c3
  rw [← hc2 g _ lg] at q0 q1 q2 q3 q4 q5
  have lb2 : b < w2.heap.size := Nat.lt_of_lt_of_le lb HB2.out.size
  have lg2 : g < w2.heap.size := Nat.lt_of_lt_of_le lg HB2.out.size
  have KS : Kept w w2.drew := Kept.of HB2.out.drew
  have K2 : Kept w2 w2.drew := Kept.start w2
  have KN : Kept w w2 := Kept.of HB2.out
  have KM : Kept w2 w2 := Kept.of (Below.refl _ _)
  obtain ⟨w4, hw4⟩ : ∃ w4, (w2.alloc (.cells #[.int .i64 t1, .int .i64 t2, .int .i64 t3, .int .i64 t4, .int .i64 t5, .slice Am nm cm] 259)).drew = w4 := ⟨_, rfl⟩
  have HB4 : Hid (Below w.heap.size w w4) := Lib.hid (by rw [← hw4]; exact (HB2.out.alloc HB2.out.size _).drew)
  have HM4 : Hid (Blk w4 (w.heap.size + 1) 259 #[.int .i64 0, .int .i64 0, .int .i64 0, .int .i64 0, .int .i64 0, .slice none 0 0]) := Lib.hid (by rw [← hw4]; exact (HM2.out.alloc _).drew)
  have HN4 : Hid (Blk w4 w2.heap.size 259 #[.int .i64 t1, .int .i64 t2, .int .i64 t3, .int .i64 t4, .int .i64 t5, .slice Am nm cm]) := Lib.hid (by rw [← hw4]; exact (Blk.new _ _ _).drew)
  have hN2 : w.heap.size + 1 < w2.heap.size := HM2.out.lt
  have HW4 := Lib.hid hw4
  clear hw4
  clear hc2
  go_region_held3 (fun w' => Kept w2 w') (first | exact K2 | exact K2.alloc _) (first
    | (go_at_call 193; (with_reducible refine (HPL.out _ (by first | exact KS | exact (KN.alloc _).drew | exact KS.alloc _)).mono ?_); rintro e w3 ⟨rfl, hw3⟩; subst hw3))
  all_goals rw [HW4.out]
  all_goals clear c0 c3 q0 q1 q2 q3 q4 q5 lb2 lg2 KS K2 KN KM
  all_goals have hL4 := HI.out.blk.kept HB4.out
  all_goals have c3 : w4.cell? ⟨b, 3, none⟩ = some (.int .i64 r) := hL4.cell 3
  all_goals have f3 := hL4.frozen 3
  all_goals have l4 := hL4.lt
  all_goals have HL4 := Lib.hid hL4
  all_goals clear hL4
  all_goals obtain ⟨r1, hr1⟩ : ∃ r1, r + 1 = r1 := ⟨_, rfl⟩
  all_goals have hwr : IntKind.i64.wrap ((r : Int) + 1) = (r1 : Int) := by rw [show (r : Int) + 1 = (r1 : Int) by omega]; exact IntWalk.i64_in _ (by omega)
  all_goals have HR1 := Lib.hid hr1
  all_goals clear hr1
  all_goals go_wp2_with fail
  all_goals go_region
  all_goals have hL5 := (lnk_set3 HL4.out r1).2.drew
  all_goals have hg5 := gr_drew (lnk_set3 HL4.out r1).1
  all_goals have hM5 := (HM4.out.grown (lnk_set3 HL4.out r1).1 (by intro e; injection e with e; omega)).drew
  all_goals have hN5 := (HN4.out.grown (lnk_set3 HL4.out r1).1 (by intro e; injection e with e; omega)).drew
  all_goals obtain ⟨w5, hw5⟩ : ∃ w5, (w4.setCell ⟨b, 3, none⟩ (.int .i64 r1)).drew = w5 := ⟨_, rfl⟩
  all_goals rw [hw5] at hL5 hg5 hM5 hN5 ⊢
  all_goals clear hw5 c3 f3 l4
  all_goals have m0 := hM5.cell 0
  all_goals have m1 := hM5.cell 1
  all_goals have m2 := hM5.cell 2
  all_goals have m3 := hM5.cell 3
  all_goals have m4 := hM5.cell 4
  all_goals have m5 := hM5.cell 5
  all_goals have z0 := hM5.frozen 0
  all_goals have z1 := hM5.frozen 1
  all_goals have z2 := hM5.frozen 2
  all_goals have z3 := hM5.frozen 3
  all_goals have z4 := hM5.frozen 4
  all_goals have z5 := hM5.frozen 5
  all_goals have lm := hM5.lt
  all_goals have n0 := hN5.cell 0
  all_goals have n1 := hN5.cell 1
  all_goals have n2 := hN5.cell 2
  all_goals have n3 := hN5.cell 3
  all_goals have n4 := hN5.cell 4
  all_goals have n5 := hN5.cell 5
  all_goals have ln := hN5.lt
  all_goals have HL5 := Lib.hid hL5
  all_goals have HG5 := Lib.hid hg5
  all_goals have HM5 := Lib.hid hM5
  all_goals clear hL5 hg5 hM5 hN5
  all_goals go_wp2_with fail
  all_goals refine bodyPost_ret (v := .tuple #[.agg #[.int .i64 t1, .int .i64 t2, .int .i64 t3, .int .i64 t4, .int .i64 t5, .slice Am nm cm], .int .i64 0]) (by simp [results, Tryz.results265, go_sem, m0, m1, m2, m3, m4, m5, lm]) rfl ?_
  all_goals refine recv_fin HI.out HV.out HVS.out hmn ?_ ?_
  all_goals first
    | (repeat (refine But.setc (p := ⟨w.heap.size + 1, _, none⟩) ?_ (show w.heap.size ≤ w.heap.size + 1 by omega) _)
       exact (But.of_below (fun x => x = b) HB4.out).trans (But.of_gr (S := fun x => x = b) HG5.out rfl))
    | (rw [HR1.out]
       repeat (refine Blk.far (p := ⟨w.heap.size + 1, _, none⟩) ?_ (show b ≠ w.heap.size + 1 by omega) _)
       exact HL5.out)
end
section
open Go.RowKit
def uv (l : List Int) : List Value := l.map (Value.int .u64)
theorem uv_get (l : List Int) (k : Nat) (hk : k < l.length) : (uv l)[k]? = some (.int .u64 l[k]) := by simp [uv, hk]
theorem uv_one (l : List Int) : ∀ u ∈ uv l, u.oneCell' = true := by
  intro u hu
  unfold uv at hu
  simp only [List.mem_map] at hu
  obtain ⟨x, _, rfl⟩ := hu
  rfl
theorem uv_at {w : World} {A : Option Addr} {n k : Nat} {l : List Int} (hl : l.length = n) (h : Rd w 1 A n (uv l)) (hk : k < n) : ∃ b o x, A = some ⟨b, o, none⟩ ∧ b < w.heap.size ∧ l[k]? = some x ∧ w.cell? ⟨b, o + k, none⟩ = some (.int .u64 x) := by
  obtain ⟨b, o, e, hb, hc⟩ := h.2 (by omega)
  have hk' : k < l.length := by omega
  exact ⟨b, o, l[k], e, hb, List.getElem?_eq_getElem hk', hc _ _ (uv_get l k hk')⟩
theorem slU64 : Sl Tryz.prog 27 135 (.int .u64 0) 1 8 := ⟨Tryz.underlying27, by kernel_rfl, rfl, by omega⟩
def InU (l : List Int) : Prop := ∀ x ∈ l, 0 ≤ x ∧ x < 18446744073709551616
structure Stm (w : World) (b : Nat) (A : Option Addr) (n cap k : Nat) (L : List Int) : Prop where
  blk : Blk w b 299 #[.slice A n cap, .int .i64 k]
  len : L.length = n
  le : k ≤ n
  rd : Rd w 1 A n (uv L)
  apart : ∀ b' o, A = some ⟨b', o, none⟩ → 0 < n → b' ≠ b
  inb : InU L
theorem Stm.kept {w w' : World} {b : Nat} {A : Option Addr} {n cap k : Nat} {L : List Int} (h : Stm w b A n cap k L) (hb : Below w.heap.size w w') : Stm w' b A n cap k L :=
  ⟨h.blk.kept hb, h.len, h.le, h.rd.below hb, h.apart, h.inb⟩
theorem Stm.grown {w w' : World} {b g : Nat} {A : Option Addr} {n cap k : Nat} {L : List Int} (h : Stm w b A n cap k L) (hg : w.grownBy w' (some g)) (h1 : b ≠ g) (h2 : ∀ b' o, A = some ⟨b', o, none⟩ → 0 < n → b' ≠ g) : Stm w' b A n cap k L :=
  ⟨h.blk.grown hg (by simpa using h1), h.len, h.le, h.rd.grown hg h2, h.apart, h.inb⟩
theorem Stm.turned {w w' : World} {b : Nat} {A : Option Addr} {n cap k k' : Nat} {L : List Int} (h : Stm w b A n cap k L) (hg : w.grownBy w' (some b)) (hb : Blk w' b 299 #[.slice A n cap, .int .i64 k']) (hk : k' ≤ n) : Stm w' b A n cap k' L :=
  ⟨hb, h.len, hk, h.rd.grown hg h.apart, h.apart, h.inb⟩
set_option maxHeartbeats 400000 in
theorem cloneU_any (A : Option Addr) (n cap : Nat) (l : List Int) (w : World) (hl : l.length = n) (h : Rd w 1 A n (uv l)) (hn : n * 8 ≤ 140737488351232) :
    Calls Tryz.prog 162 #[.slice A n cap] w (OwnRet w 135 1 n (uv l)) := by
  have HR := Lib.hid h
  have HL := Lib.hid hl
  have hq := fun (w : World) (a : Option Addr) (n c : Nat) => Lib.run_eql_slice_nil (P := Tryz.prog) w 27 135 a n c 0 0 Tryz.underlying27
  clear h hl
  cases A with
  | none =>
    have hn0 : n = 0 := by
      rcases Nat.eq_zero_or_pos n with h0 | h0
      · exact h0
      · obtain ⟨b, o, h, _⟩ := HR.out.2 h0; cases h
    subst hn0
    have hl0 : l = [] := List.eq_nil_of_length_eq_zero HL.out
    subst hl0
    go_enter Tryz.func162, Tryz.ntmps162
    go_wp2
    go_ret
    exact ⟨none, 0, rfl, World.ownsRow_nil _ _ _ _, Below.refl _ _⟩
  | some ad =>
    go_enter Tryz.func162, Tryz.ntmps162
    go_wp2_with (at_builtin; go_must (refine wpList_appendAll slU64 rfl _ _ rfl w.heap.size _ 0 [] rfl (World.ownsRow_lit w #[] 0 (Nat.le_refl _) (by unfold maxLen; omega) rfl) (some ad) n cap (uv l) rfl (HR.out.alloc _) (uv_one l) (by unfold maxLen; omega) (by omega) (by simp) ?_); intro A' cap' w1 hown1 hb1)
    go_ret
    exact ⟨A', cap', by simp, by simpa using hown1, ((Below.refl _ _).alloc (Nat.le_refl _) _).trans hb1⟩
def NewRet (w : World) (n : Nat) (l : List Int) (en : Ending) (w' : World) : Prop :=
  ∃ g A cap, en = .returned (.pointer (some ⟨g, 0, none⟩)) ∧ Stm w' g A n cap 0 l ∧ w.heap.size ≤ g ∧ (∀ b o, A = some ⟨b, o, none⟩ → w.heap.size ≤ b) ∧ Below w.heap.size w w'
set_option maxHeartbeats 400000 in
theorem drawNew_any (A : Option Addr) (n cap : Nat) (l : List Int) (w : World) (hl : l.length = n) (h : Rd w 1 A n (uv l)) (hn : n * 8 ≤ 140737488351232) (hu : InU l) :
    Calls Tryz.prog 78 #[.slice A n cap] w (NewRet w n l) := by
  have HR := Lib.hid h
  have HL := Lib.hid hl
  have HU := Lib.hid hu
  clear h hl hu
  go_enter Tryz.func78, Tryz.ntmps78
  go_wp2_with fail
  ((with_reducible refine (cloneU_any A n cap l _ HL.out HR.out (by omega)).mono ?_); rintro e w1 ⟨A', cap', rfl, hown, hb1⟩)
  have HO := Lib.hid hown
  clear hown
  go_wp2
  go_ret
  refine ⟨w1.heap.size, A', cap', rfl, ⟨Blk.new _ _ _, HL.out, Nat.zero_le _, (Rd.of_own HO.out).alloc _, fun b' o e _ => ?_, HU.out⟩, hb1.size, fun b o e => (own_rd_block HO.out b o e).1, hb1.alloc hb1.size _⟩
  have := (own_rd_block HO.out b' o e).2
  omega
set_option maxHeartbeats 400000 in
theorem left_any (b : Nat) (A : Option Addr) (n cap k : Nat) (w : World) (h : Blk w b 299 #[.slice A n cap, .int .i64 k]) (hk : k ≤ n) (hn : n ≤ 9223372036854775807) :
    Calls Tryz.prog 213 #[.pointer (some ⟨b, 0, none⟩)] w fun e w' => e = .returned (.int .i64 ((n : Int) - (k : Int))) ∧ ∃ m, w' = w.drewN m := by
  have c0 : w.cell? ⟨b, 0, none⟩ = some (.slice A n cap) := h.cell 0
  have c1 : w.cell? ⟨b, 1, none⟩ = some (.int .i64 k) := h.cell 1
  clear h
  go_enter Tryz.func213, Tryz.ntmps213
  go_wp2_with fail
  go_quiet (fail)
  go_wp2
  go_ret
  exact ⟨rfl, _, rfl⟩
def Turned (w : World) (b : Nat) (A : Option Addr) (n cap k : Nat) (v : Value) (en : Ending) (w' : World) : Prop :=
  en = .returned v ∧ w.grownBy w' (some b) ∧ Blk w' b 299 #[.slice A n cap, .int .i64 k]
theorem rem_fits {x m : Int} (hx : 0 ≤ x) (hm : 1 ≤ m) (hm2 : m ≤ 9223372036854775807) : wrap64 (x % m) = x % m := by
  have h1 := Int.emod_nonneg x (show m ≠ 0 by omega)
  have h2 := Int.emod_lt_of_pos x (show 0 < m by omega)
  exact IntWalk.wrap64_in _ ⟨by omega, by omega⟩
set_option maxHeartbeats 400000 in
theorem next_some (b : Nat) (A : Option Addr) (n cap k : Nat) (L : List Int) (m x : Int) (w : World) (h : Stm w b A n cap k L) (hm : 1 ≤ m) (hm2 : m ≤ 9223372036854775807) (hn : n ≤ 9223372036854775807) (hx : L[k]? = some x) :
    Calls Tryz.prog 215 #[.pointer (some ⟨b, 0, none⟩), .int .i64 m] w (Turned w b A n cap (k + 1) (.tuple #[.int .i64 (x % m), .bool true])) := by
  have hk : k < n := by rw [← h.len]; exact (List.getElem?_eq_some_iff.1 hx).1
  obtain ⟨b', o, x', rfl, hbl, hx', c2⟩ := uv_at h.len h.rd hk
  obtain rfl : x' = x := by rw [hx] at hx'; injection hx' with e; exact e.symm
  have hxb := h.inb x' (List.mem_of_getElem? hx)
  have hne := h.apart b' o rfl (by omega)
  have HB := Lib.hid h.blk
  have hd : ((n : Int) - (k : Int) == 0) = false := by simp; omega
  have c0 : w.cell? ⟨b, 0, none⟩ = some (.slice (some ⟨b', o, none⟩) n cap) := h.blk.cell 0
  have c1 : w.cell? ⟨b, 1, none⟩ = some (.int .i64 k) := h.blk.cell 1
  have f1 := h.blk.frozen 1
  have i1 : (0 : Int) ≤ (k : Int) := by omega
  have i2 : (k : Int) < (n : Int) := by omega
  clear h hx hx'
  go_enter Tryz.func215, Tryz.ntmps215
  go_wp2_with fail
  ((with_reducible refine (left_any b _ n cap k _ HB.out (by omega) hn).mono ?_); rintro e w1 ⟨rfl, q, rfl⟩)
  go_wp2_with fail
  go_quiet (fail)
  go_wp2
  go_ret2
  refine ⟨ret_pair (congrArg (Value.int .i64) (rem_fits hxb.1 hm hm2)), ?_, ?_⟩
  · exact gr_drewN (gr_set (World.grownBy.refl _ _) (.inl rfl) _) _
  · exact (HB.out.set_ 1 _).drewN _
set_option maxHeartbeats 400000 in
theorem refNext_some (A : Option Addr) (n cap k : Nat) (L : List Int) (m x : Int) (w : World) (hl : L.length = n) (h : Rd w 1 A n (uv L)) (hu : InU L) (hm : 1 ≤ m) (hm2 : m ≤ 9223372036854775807) (hn : n ≤ 9223372036854775807) (hx : L[k]? = some x) :
    Calls Tryz.prog 226 #[.agg #[.slice A n cap, .int .i64 k], .int .i64 m] w fun e w' => e = .returned (.tuple #[.agg #[.slice A n cap, .int .i64 ((k + 1 : Nat) : Int)], .int .i64 (x % m), .bool true]) ∧ Below w.heap.size w w' := by
  have hk : k < n := by rw [← hl]; exact (List.getElem?_eq_some_iff.1 hx).1
  obtain ⟨b', o, x', rfl, hbl, hx', c2⟩ := uv_at hl h hk
  obtain rfl : x' = x := by rw [hx] at hx'; injection hx' with e; exact e.symm
  have hxb := hu x' (List.mem_of_getElem? hx)
  clear h hx hx' hl hu
  go_enter Tryz.func226, Tryz.ntmps226
  go_wp2
  go_region
  go_wp2
  exact bodyPost_ret (v := .tuple #[.agg #[.slice (some ⟨b', o, none⟩) n cap, .int .i64 ((k + 1 : Nat) : Int)], .int .i64 (x' % m), .bool true]) (by simp [results, Tryz.results226, go_sem, rem_fits hxb.1 hm hm2]) rfl ⟨rfl, (((Below.refl _ _).alloc (Nat.le_refl _) _).alloc (by simp) _).drew⟩
end
section
open Go.RowKit
abbrev SlN := Option Addr × Nat × Nat
def slsv (vs : List SlN) : List Value := vs.map fun s => .slice s.1 s.2.1 s.2.2
theorem slsv_snoc (vs : List SlN) (s : SlN) : slsv (vs ++ [s]) = slsv vs ++ [.slice s.1 s.2.1 s.2.2] := by simp [slsv]
theorem slsv_get {vs : List SlN} {i : Nat} {s : SlN} (h : vs[i]? = some s) : (slsv vs)[i]? = some (.slice s.1 s.2.1 s.2.2) := by simp [slsv, h]
theorem own_ne_own {w : World} {base base' : Nat} {e e' : TypeId} {size size' n n' : Nat} {v v' : Value} {xs xs' : List Value} (h : w.ownsRow base e size v n xs) (h' : w.ownsRow base' e' size' v' n' xs') (hne : e ≠ e') : v.ownBlock = none ∨ v.ownBlock ≠ v'.ownBlock := by
  rcases h'.2 with ⟨rfl, _⟩ | ⟨g', cap, cur, rfl, _, hh, _⟩
  · rcases h.2 with ⟨rfl, _⟩ | ⟨g, cap, cur, rfl, _⟩
    · exact .inl (by simp [Value.ownBlock])
    · exact .inr (by simp [Value.ownBlock])
  · exact .inr (by have := own_blk_ne h (g := g') (t := e') (cs := cur) hh hne; simpa [Value.ownBlock] using this)
structure OwnN (w : World) (base : Nat) (vs : List SlN) (ls : List (List Int)) : Prop where
  len : vs.length = ls.length
  row : ∀ (i : Nat) (s : SlN) (l : List Int), vs[i]? = some s → ls[i]? = some l → s.2.1 = l.length ∧ w.ownsRow base 3 1 (.slice s.1 s.2.1 s.2.2) s.2.1 (iv l)
theorem OwnN.nil (w : World) (base : Nat) : OwnN w base [] [] := ⟨rfl, fun i s l h => by simp at h⟩
theorem OwnN.below {w w' : World} {base : Nat} {vs : List SlN} {ls : List (List Int)} (h : OwnN w base vs ls) (hb : Below w.heap.size w w') : OwnN w' base vs ls :=
  ⟨h.len, fun i s l h1 h2 => ⟨(h.row i s l h1 h2).1, own_below (h.row i s l h1 h2).2 hb⟩⟩
theorem OwnN.base {w : World} {base base' : Nat} {vs : List SlN} {ls : List (List Int)} (h : OwnN w base vs ls) (hb : base' ≤ base) : OwnN w base' vs ls :=
  ⟨h.len, fun i s l h1 h2 => ⟨(h.row i s l h1 h2).1, own_base (h.row i s l h1 h2).2 hb⟩⟩
theorem OwnN.but {w w' : World} {S : Nat → Prop} {base : Nat} {vs : List SlN} {ls : List (List Int)} (h : OwnN w base vs ls) (hb : But S w w')
    (hv : ∀ (v : Value) (n : Nat) (xs : List Value) (g : Nat), w.ownsRow base 3 1 v n xs → v.ownBlock = some g → ¬ S g) : OwnN w' base vs ls :=
  ⟨h.len, fun i s l h1 h2 => ⟨(h.row i s l h1 h2).1, own_but (h.row i s l h1 h2).2 hb (fun g e => hv _ _ _ g (h.row i s l h1 h2).2 e)⟩⟩
theorem OwnN.rowkept {w w' : World} {base base' : Nat} {t : TypeId} {size n : Nat} {v : Value} {xs : List Value} {vs : List SlN} {ls : List (List Int)} (h : OwnN w base vs ls) (hv : w.ownsRow base' t size v n xs) (ht : 3 ≠ t) (hg : w.grownBy w' v.ownBlock) : OwnN w' base vs ls :=
  ⟨h.len, fun i s l h1 h2 => ⟨(h.row i s l h1 h2).1, (h.row i s l h1 h2).2.kept hg (own_ne_own (h.row i s l h1 h2).2 hv ht)⟩⟩
theorem OwnN.snoc {w : World} {base : Nat} {vs : List SlN} {ls : List (List Int)} {s : SlN} {l : List Int} (h : OwnN w base vs ls) (hl : s.2.1 = l.length) (h1 : w.ownsRow base 3 1 (.slice s.1 s.2.1 s.2.2) s.2.1 (iv l)) : OwnN w base (vs ++ [s]) (ls ++ [l]) := by
  refine ⟨by simp [h.len], fun i s' l' hs hl' => ?_⟩
  rw [List.getElem?_append] at hs hl'
  rw [h.len] at hs
  split at hs
  · rename_i hi
    rw [if_pos hi] at hl'
    exact h.row i s' l' hs hl'
  · rename_i hi
    rw [if_neg hi] at hl'
    have : i - ls.length = 0 := by
      have := (List.getElem?_eq_some_iff.1 hs).1
      simp at this
      omega
    rw [this] at hs hl'
    simp at hs hl'
    subst hs hl'
    exact ⟨hl, h1⟩
theorem slRows : Sl Tryz.prog 82 22 (.slice none 0 0) 1 24 := ⟨Tryz.underlying82, by kernel_rfl, rfl, by omega⟩
theorem uone_sl (A : Option Addr) (n c : Nat) : ∀ u ∈ (#[Value.slice A n c] : Array Value).toList, u.oneCell' = true := by
  intro u hu
  simp at hu
  subst hu
  rfl
end
section
open Go.RowKit
theorem sub_len {l : List Int} {N : Nat} (h : l.length = N) (lo n : Nat) (hfit : lo + n ≤ N) : ((l.drop lo).take n).length = n := by simp; omega
end
section
open Go.RowKit
theorem uone_int (x : Int) : ∀ u ∈ (#[Value.int .i64 x] : Array Value).toList, u.oneCell' = true := by
  intro u hu
  simp at hu
  subst hu
  rfl
def anyLow (bs : List Int) : Bool := bs.any fun x => decide (x < 1)
theorem low_here {bs : List Int} {k : Nat} {x : Int} (h : bs[k]? = some x) (hx : x < 1) : anyLow bs = true := by
  unfold anyLow
  rw [List.any_eq_true]
  exact ⟨x, List.mem_of_getElem? h, by simpa using hx⟩
theorem low_none {bs : List Int} {n : Nat} (hl : bs.length = n) (h : ∀ j x, j < n → bs[j]? = some x → 1 ≤ x) : anyLow bs = false := by
  unfold anyLow
  rw [List.any_eq_false]
  intro x hx
  obtain ⟨i, hi, rfl⟩ := List.mem_iff_getElem.1 hx
  have := h i _ (by omega) (List.getElem?_eq_getElem hi)
  simp; omega
def IdxRet (bs : List Int) (w : World) (e : Ending) (w' : World) : Prop := ∃ v : Int, e = .returned (.int .i64 v) ∧ decide (0 ≤ v) = anyLow bs ∧ w = w'
set_option maxHeartbeats 400000 in
theorem indexFunc_any (A : Option Addr) (n cap : Nat) (bs : List Int) (w : World) (hl : bs.length = n) (h : Rd w 1 A n (iv bs)) (hn : n ≤ 9223372036854775807) :
    Calls Tryz.prog 180 #[.slice A n cap, .func (.func 214) #[] #[]] w (IdxRet bs w) := by
  have HL := Lib.hid hl
  have HR := Lib.hid h
  clear hl h
  go_enter Tryz.func180, Tryz.ntmps180
  go_wp2_with fail
  go_loop [8] (fun c => ∃ k : Nat, k ≤ n ∧ c = .int .i64 k ∧ Hid (∀ j x, j < k → bs[j]? = some x → 1 ≤ x)) (fun c => n - (intOf c).toNat)
  case atStart => exact ⟨0, by omega, rfl, Lib.hid (fun j x h => by omega)⟩
  case round =>
    obtain ⟨k, hk, rfl, he⟩ := hrel
    by_cases hlt : k < n
    · obtain ⟨b, o, x, rfl, hbl, hx, c1⟩ := iv_at HL.out HR.out hlt
      have HX := Lib.hid hx
      clear hx
      by_cases hlow : x < 1
      · go_wp2
        go_ret
        exact ⟨k, rfl, by rw [low_here HX.out hlow]; simp, rfl⟩
      · go_wp2
        go_round
        case rel =>
          refine ⟨k + 1, by omega, by go_num, Lib.hid (fun j y hj hy => ?_)⟩
          by_cases hjk : j < k
          · exact he.out j y hjk hy
          · obtain rfl : j = k := by omega
            rw [HX.out] at hy
            injection hy with hy
            omega
        case measure => simp [intOf]; omega
    · obtain rfl : k = n := by omega
      go_wp2
      go_ret
      exact ⟨-1, rfl, by rw [low_none HL.out he.out]; rfl, rfl⟩
set_option maxHeartbeats 400000 in
theorem containsFunc_any (A : Option Addr) (n cap : Nat) (bs : List Int) (w : World) (hl : bs.length = n) (h : Rd w 1 A n (iv bs)) (hn : n ≤ 9223372036854775807) :
    Calls Tryz.prog 102 #[.slice A n cap, .func (.func 214) #[] #[]] w fun e w' => e = .returned (.bool (anyLow bs)) ∧ w = w' := by
  have HL := Lib.hid hl
  have HR := Lib.hid h
  clear hl h
  go_enter Tryz.func102, Tryz.ntmps102
  go_wp2_with fail
  ((with_reducible refine (indexFunc_any A n cap bs _ HL.out HR.out hn).mono ?_); rintro e w1 ⟨v, rfl, hv, rfl⟩)
  have HV := Lib.hid hv
  clear hv
  go_wp2_with fail
  go_ret
  exact ⟨ret_bool HV.out, rfl⟩
def manyL (L : List Int) (k : Nat) (bs : List Int) : List Int := List.zipWith (fun x m => x % m) (L.drop k) bs
theorem manyL_length (L : List Int) (k : Nat) (bs : List Int) (h : bs.length ≤ L.length - k) : (manyL L k bs).length = bs.length := by
  simp [manyL]; omega
theorem manyL_get (L : List Int) (k : Nat) (bs : List Int) (j : Nat) (x m : Int) (hx : L[k + j]? = some x) (hm : bs[j]? = some m) : (manyL L k bs)[j]? = some (x % m) := by
  unfold manyL
  rw [List.getElem?_zipWith, List.getElem?_drop, hx, hm]
theorem iv_take_snoc (l : List Int) (k : Nat) (x : Int) (h : l[k]? = some x) : iv (l.take (k + 1)) = iv (l.take k) ++ [.int .i64 x] := by
  obtain ⟨hk, hx⟩ := List.getElem?_eq_some_iff.1 h
  rw [List.take_succ_eq_append_getElem hk, iv_append, hx]
  rfl
set_option maxHeartbeats 400000 in
theorem many_none (b : Nat) (A B : Option Addr) (n cap k m d : Nat) (bs : List Int) (w : World) (h : Blk w b 299 #[.slice A n cap, .int .i64 k]) (hk : k ≤ n) (hn : n ≤ 9223372036854775807) (hl : bs.length = m) (hr : Rd w 1 B m (iv bs)) (hm : m ≤ 9223372036854775807)
    (hno : n - k < m ∨ anyLow bs = true) :
    Calls Tryz.prog 163 #[.pointer (some ⟨b, 0, none⟩), .slice B m d] w (Turned w b A n cap k (.tuple #[.slice none 0 0, .bool false])) := by
  have HB := Lib.hid h
  have HL := Lib.hid hl
  have HR := Lib.hid hr
  clear h hl hr
  by_cases hs : n - k < m
  · have d1 : decide ((n : Int) - (k : Int) < (m : Int)) = true := by simp; omega
    clear hno
    go_enter Tryz.func163, Tryz.ntmps163
    go_wp2_with fail
    ((with_reducible refine (left_any b A n cap k _ HB.out (by omega) hn).mono ?_); rintro e w1 ⟨rfl, q, rfl⟩)
    go_wp2_with fail
    go_ret2
    exact ⟨rfl, gr_drewN (World.grownBy.refl _ _) _, HB.out.drewN _⟩
  · have d1 : decide ((n : Int) - (k : Int) < (m : Int)) = false := by simp; omega
    have HN : Hid (anyLow bs = true) := Lib.hid (by rcases hno with h | h; exact absurd h hs; exact h)
    clear hno
    go_enter Tryz.func163, Tryz.ntmps163
    go_wp2_with fail
    ((with_reducible refine (left_any b A n cap k _ HB.out (by omega) hn).mono ?_); rintro e w1 ⟨rfl, q, rfl⟩)
    go_wp2_with fail
    ((with_reducible refine (containsFunc_any B m d bs _ HL.out (HR.out.drewN _) hm).mono ?_); rintro e w1 ⟨rfl, rfl⟩)
    rw [HN.out]
    go_wp2_with fail
    go_ret2
    exact ⟨rfl, gr_drewN (World.grownBy.refl _ _) _, HB.out.drewN _⟩
def ManyRet (w : World) (b : Nat) (A : Option Addr) (n cap k m : Nat) (l : List Int) (en : Ending) (w' : World) : Prop :=
  ∃ A' c', en = .returned (.tuple #[.slice A' m c', .bool true]) ∧ w'.ownsRow w.heap.size 3 1 (.slice A' m c') m (iv l) ∧ w.grownBy w' (some b) ∧ Blk w' b 299 #[.slice A n cap, .int .i64 k]
set_option maxHeartbeats 800000 in
theorem many_some (b : Nat) (A B : Option Addr) (n cap k m d : Nat) (L bs : List Int) (w : World) (h : Stm w b A n cap k L) (hn : n ≤ 10000000) (hl : bs.length = m) (hr : Rd w 1 B m (iv bs)) (hB : ∀ b' o, B = some ⟨b', o, none⟩ → 0 < m → b' ≠ b)
    (hfit : k + m ≤ n) (hlow : anyLow bs = false) (hbd : ∀ x ∈ bs, x ≤ 9223372036854775807) :
    Calls Tryz.prog 163 #[.pointer (some ⟨b, 0, none⟩), .slice B m d] w (ManyRet w b A n cap (k + m) m (manyL L k bs)) := by
  have HL := Lib.hid hl
  have HR := Lib.hid hr
  have HS := Lib.hid h
  have HN := Lib.hid hlow
  have HB := Lib.hid hB
  have HD := Lib.hid hbd
  have hblt := h.blk.lt
  have hkn := h.le
  have d1 : decide ((n : Int) - (k : Int) < (m : Int)) = false := by simp; omega
  have HM : Hid ((manyL L k bs).length = m) := Lib.hid (by rw [manyL_length L k bs (by rw [h.len]; omega), hl])
  have hpos : Hid (∀ (j : Nat) (x : Int), bs[j]? = some x → 1 ≤ x) := Lib.hid (by
    intro j x hx
    rcases Int.lt_or_le x 1 with h1 | h1
    · rw [low_here hx h1] at hlow; cases hlow
    · exact h1)
  clear h hl hr hlow hB hbd
  go_enter Tryz.func163, Tryz.ntmps163
  go_wp2_with fail
  ((with_reducible refine (left_any b A n cap k _ HS.out.blk (by omega) (by omega)).mono ?_); rintro e w1 ⟨rfl, q, rfl⟩)
  go_wp2_with fail
  ((with_reducible refine (containsFunc_any B m d bs _ HL.out (HR.out.drewN _) (by omega)).mono ?_); rintro e w1 ⟨rfl, rfl⟩)
  rw [HN.out]
  go_wp2_with fail
  go_loopw [6, 26] (fun v c wr => ∃ j : Nat, j ≤ m ∧ c = .int .i64 j ∧ (∃ A' c', v = .slice A' j c') ∧ wr.ownsRow w.heap.size 3 1 v j (iv ((manyL L k bs).take j)) ∧ w.grownBy wr (some b) ∧ Blk wr b 299 #[.slice A n cap, .int .i64 ((k + j : Nat) : Int)]) (fun _ c _ => m - (intOf c).toNat)
  case atStart => exact ⟨0, by omega, rfl, ⟨none, 0, rfl⟩, by simpa [iv] using World.ownsRow_nil _ _ _ _, gr_drewN (World.grownBy.refl _ _) _, HS.out.blk.drewN _⟩
  case round =>
    obtain ⟨j, hj, rfl, ⟨A', c', rfl⟩, hown, hg, hblk⟩ := hrel
    by_cases hlt : j < m
    · have hst := HS.out.turned hg hblk (by omega)
      have hbw : b ≠ w.heap.size := by omega
      obtain ⟨b2, o2, y, hBe, hbl2, hy, cy⟩ := iv_at HL.out (HR.out.grown hg HB.out) hlt
      subst hBe
      have hkj : k + j < L.length := by rw [HS.out.len]; omega
      have hx := List.getElem?_eq_getElem hkj
      generalize L[k + j] = x at hx
      have HY := Lib.hid (hpos.out j y hy)
      have HT := Lib.hid (iv_take_snoc _ j _ (manyL_get L k bs j x y hx hy))
      have HC := Lib.hid (next_some b A n cap (k + j) L y x _ hst HY.out (HD.out y (List.mem_of_getElem? hy)) (by omega) hx)
      have HO := Lib.hid hown
      have HG := Lib.hid hg
      clear hst hown hg hblk hx hy
      go_wp2_with fail
      ((with_reducible refine HC.out.mono ?_); rintro e w1 ⟨rfl, hg1, hblk1⟩)
      have hown1 : w1.ownsRow w.heap.size 3 1 (.slice A' j c') j (iv ((manyL L k bs).take j)) := HO.out.kept hg1 (by
        cases hA : (Value.slice A' j c').ownBlock with
        | none => exact .inl rfl
        | some g => refine .inr ?_; intro e; injection e with e; have := (HO.out.lt g hA).1; omega)
      have hg2 := HG.out.trans hg1
      have hsz := hg2.size
      have HO1 := Lib.hid hown1
      have HB1 := Lib.hid hblk1
      have HG2 := Lib.hid hg2
      clear hown1 hblk1 hg1 hg2 HO HG HC
      go_wp2_with (at_builtin; go_must (refine wpList_push slInt rfl _ _ rfl w.heap.size _ j (iv ((manyL L k bs).take j)) rfl HO1.out #[.int .i64 (x % y)] _ rfl rfl rfl (uone_int _) (by unfold maxLen; omega) (by omega) hsz ?_); intro A2 c2 w2 hown2 hb2)
      go_roundw
      case rel => exact ⟨j + 1, by omega, by go_num, ⟨A2, c2, rfl⟩, by rw [HT.out]; exact hown2, gr_below HG2.out hb2, HB1.out.below hb2 hblt⟩
      case measure => simp [intOf]; omega
    · obtain rfl : j = m := by omega
      go_wp2
      go_ret2
      refine ⟨A', c', rfl, ?_, hg, hblk⟩
      rw [List.take_of_length_le (by rw [HM.out]; omega)] at hown
      exact hown
end
section
open Go.RowKit
def iotaL (n : Nat) : List Int := (List.range n).map fun j : Nat => (j : Int)
theorem iotaL_length (n : Nat) : (iotaL n).length = n := by simp [iotaL]
theorem iotaL_succ (n : Nat) : iotaL (n + 1) = iotaL n ++ [(n : Int)] := by simp [iotaL, List.range_succ]
theorem iv_iota_succ (n : Nat) : iv (iotaL (n + 1)) = iv (iotaL n) ++ [.int .i64 n] := by rw [iotaL_succ, iv_append]; rfl
set_option maxHeartbeats 400000 in
theorem identity_any (n : Nat) (w : World) (hn : n ≤ 1000000) :
    Calls Tryz.prog 164 #[.int .i64 n] w (OwnRet w 3 1 n (iv (iotaL n))) := by
  go_enter Tryz.func164, Tryz.ntmps164
  go_wp2_with fail
  go_loopw [3, 6] (fun v c wr => ∃ j : Nat, j ≤ n ∧ c = .int .i64 j ∧ (∃ A' c', v = .slice A' j c') ∧ wr.ownsRow w.heap.size 3 1 v j (iv (iotaL j)) ∧ Below w.heap.size w wr) (fun _ c _ => n - (intOf c).toNat)
  case atStart => exact ⟨0, by omega, rfl, ⟨none, 0, rfl⟩, by simpa [iv, iotaL] using World.ownsRow_nil _ _ _ _, Below.refl _ _⟩
  case round =>
    obtain ⟨j, hj, rfl, ⟨A', c', rfl⟩, hown, hb⟩ := hrel
    by_cases hlt : j < n
    · have hsz := hb.size
      have HO := Lib.hid hown
      have HB := Lib.hid hb
      have HT := Lib.hid (iv_iota_succ j)
      clear hown hb
      go_wp2_with (at_builtin; go_must (refine wpList_push slInt rfl _ _ rfl w.heap.size _ j (iv (iotaL j)) rfl HO.out #[.int .i64 j] _ rfl rfl rfl (uone_int _) (by unfold maxLen; omega) (by omega) hsz ?_); intro A2 c2 w2 hown2 hb2)
      go_roundw
      case rel => exact ⟨j + 1, by omega, by go_num, ⟨A2, c2, rfl⟩, by rw [HT.out]; exact hown2, HB.out.trans hb2⟩
      case measure => simp [intOf]; omega
    · obtain rfl : j = n := by omega
      go_wp2
      go_ret
      exact ⟨A', c', rfl, hown, hb⟩
def swapL (l : List Int) (i j : Nat) : List Int := (l.set i (l.getD j 0)).set j (l.getD i 0)
theorem swapL_length (l : List Int) (i j : Nat) : (swapL l i j).length = l.length := by simp [swapL]
theorem own_store1 {w : World} {base : Nat} {e : TypeId} {g n cap : Nat} {l : List Int} (h : w.ownsRow base e 1 (.slice (some ⟨g, 0, none⟩) n cap) n (iv l)) (k j : Nat) (x y : Int) :
    (((w.setCell ⟨g, k, none⟩ (.int .i64 x)).setCell ⟨g, j, none⟩ (.int .i64 y))).ownsRow base e 1 (.slice (some ⟨g, 0, none⟩) n cap) n (iv ((l.set k x).set j y)) ∧
    w.grownBy ((w.setCell ⟨g, k, none⟩ (.int .i64 x)).setCell ⟨g, j, none⟩ (.int .i64 y)) (some g) := by
  obtain ⟨s1, g1⟩ := h.stored k (.int .i64 x)
  obtain ⟨s2, g2⟩ := s1.stored j (.int .i64 y)
  rw [← iv_set, ← iv_set]
  exact ⟨s2, g1.trans g2⟩
set_option maxHeartbeats 1000000 in
theorem swap_any (gh g n c base i j : Nat) (l : List Int) (w : World) (hl : l.length = n) (hn : n ≤ 1000000) (hi : i < n) (hj : j < n) (hh : Blk w gh 22 #[.slice (some ⟨g, 0, none⟩) n c]) (hne : gh ≠ g) (hown : w.ownsRow base 3 1 (.slice (some ⟨g, 0, none⟩) n c) n (iv l)) :
    Calls Tryz.prog 165 #[.int .i64 i, .int .i64 j, .pointer (some ⟨gh, 0, none⟩)] w fun e w' => e = .returned (.tuple #[]) ∧ w'.ownsRow base 3 1 (.slice (some ⟨g, 0, none⟩) n c) n (iv (swapL l i j)) ∧ w.grownBy w' (some g) := by
  have h0 : w.cell? ⟨gh, 0, none⟩ = some (.slice (some ⟨g, 0, none⟩) n c) := hh.cell 0
  obtain ⟨x, hx⟩ : ∃ x, l[i]? = some x := ⟨_, List.getElem?_eq_getElem (by omega)⟩
  obtain ⟨y, hy⟩ : ∃ y, l[j]? = some y := ⟨_, List.getElem?_eq_getElem (by omega)⟩
  have c1 : w.cell? ⟨g, i, none⟩ = some (.int .i64 x) := (hown.cellAt i (by omega)).trans (by rw [iv, List.getElem?_map, hx]; rfl)
  have c2 : w.cell? ⟨g, j, none⟩ = some (.int .i64 y) := (hown.cellAt j (by omega)).trans (by rw [iv, List.getElem?_map, hy]; rfl)
  have f1 := hown.frozenAt i
  have f2 := hown.frozenAt j
  have lh := hh.lt
  have HO := Lib.hid hown
  have i1 : (0 : Int) ≤ (i : Int) := by omega
  have i2 : (i : Int) < (n : Int) := by omega
  have i3 : (0 : Int) ≤ (j : Int) := by omega
  have i4 : (j : Int) < (n : Int) := by omega
  have HE : Hid (swapL l i j = (l.set i y).set j x) := Lib.hid (by simp [swapL, List.getD, hx, hy])
  clear hh hown hl hx hy
  by_cases e : i = j
  · subst e
    obtain rfl : x = y := by rw [c1] at c2; injection c2 with e; injection e
    go_enter Tryz.func165, Tryz.ntmps165
    go_wp2_with fail
    go_region
    go_wp2
    go_end0
    rw [HE.out]
    have h := own_store1 HO.out i i x x
    exact ⟨rfl, h.1, h.2.os, h.2.tape, h.2.output, h.2.size, h.2.block⟩
  · go_enter Tryz.func165, Tryz.ntmps165
    go_wp2_with fail
    go_region
    go_wp2
    go_end0
    rw [HE.out]
    have h := own_store1 HO.out i j y x
    exact ⟨rfl, h.1, h.2.os, h.2.tape, h.2.output, h.2.size, h.2.block⟩
def bndsL (n k : Nat) : List Int := (List.range k).map fun j : Nat => (n : Int) - (j : Int)
theorem bndsL_length (n k : Nat) : (bndsL n k).length = k := by simp [bndsL]
theorem bndsL_get (n k j : Nat) (h : j < k) : (bndsL n k)[j]? = some ((n : Int) - (j : Int)) := by simp [bndsL, h]
theorem iv_bnds_succ (n k : Nat) (m : Int) (h : (n : Int) - (k : Int) = m) : iv (bndsL n (k + 1)) = iv (bndsL n k) ++ [.int .i64 m] := by
  subst h
  simp [bndsL, List.range_succ, iv]
theorem bnds_low (n k : Nat) (h : k ≤ n) : anyLow (bndsL n k) = false := by
  refine low_none (bndsL_length n k) (fun j x hj hx => ?_)
  rw [bndsL_get n k j hj] at hx
  injection hx with hx
  omega
def shufTo (n : Nat) (ds : List Int) : Nat → List Int
  | 0 => iotaL n
  | k + 1 => swapL (shufTo n ds k) (n - 1 - k) (ds.getD k 0).toNat
theorem shufTo_length (n : Nat) (ds : List Int) : ∀ k, (shufTo n ds k).length = n
  | 0 => iotaL_length n
  | k + 1 => by rw [shufTo, swapL_length, shufTo_length n ds k]
end
section
open Go.RowKit
def pemL (L : List Int) (n s : Nat) : List Int := shufTo n (manyL L s (bndsL n (n - 1))) (n - 1)
theorem pemL_length (L : List Int) (n s : Nat) : (pemL L n s).length = n := shufTo_length _ _ _
abbrev smpC (bt st : Int) (Ab : Option Addr) (q cb : Nat) (Ao : Option Addr) (E co : Nat) : Array Value := #[.int .i64 bt, .int .i64 st, .slice Ab q cb, .slice Ao E co]
theorem blk_set3 {w : World} {g : Nat} {t : TypeId} {x y z u : Value} (h : Blk w g t #[x, y, z, u]) (v : Value) :
    w.grownBy (w.setCell ⟨g, 3, none⟩ v) (some g) ∧ Blk (w.setCell ⟨g, 3, none⟩ v) g t #[x, y, z, v] :=
  ⟨gr_set (p := ⟨g, 3, none⟩) (World.grownBy.refl w _) (.inl rfl) v, by simpa using h.set_ 3 v⟩
end
section
open Go.RowKit
variable (gn gst gs b bs N cap n s E co cb q base : Nat) (A Ao Ab : Option Addr) (bt st : Int) (L : List Int) (vs : List SlN) (w : World)
set_option maxHeartbeats 2000000 in
theorem newShuf_gen (ok : Bool) (R : SlN → World → Prop) (h1 : Blk w gn 3 #[.int .i64 n]) (h2 : Blk w gst 187 #[.pointer (some ⟨b, 0, none⟩)])
    (h3 : Blk w gs 71 #[.pointer (some ⟨bs, 0, none⟩)]) (h4 : Blk w bs 186 (smpC bt st Ab q cb Ao E co)) (ho : w.ownsRow base 22 1 (.slice Ao E co) E (slsv vs))
    (hbb : Blk w b 299 #[.slice A N cap, .int .i64 s]) (hE : E ≤ 1000) (hbase : base ≤ w.heap.size)
    (hC : Calls Tryz.prog 80 #[.int .i64 n, .pointer (some ⟨b, 0, none⟩)] w fun e w' => ∃ sl : SlN, e = .returned (.tuple #[.slice sl.1 sl.2.1 sl.2.2, .bool ok]) ∧ R sl w' ∧ w.grownBy w' (some b)) :
    Calls Tryz.prog 79 #[.pointer (some ⟨gn, 0, none⟩), .pointer (some ⟨gst, 0, none⟩), .pointer (some ⟨gs, 0, none⟩)] w fun e w' => e = .returned (.bool ok) ∧ ∃ (w1 : World) (sl : SlN) (Ao' : Option Addr) (co' : Nat), R sl w1 ∧ w.grownBy w1 (some b) ∧
      Blk w' bs 186 (smpC bt st Ab q cb Ao' (E + 1) co') ∧ w'.ownsRow base 22 1 (.slice Ao' (E + 1) co') (E + 1) (slsv (vs ++ [sl])) ∧ But (fun g => g = bs ∨ (Value.slice Ao E co).ownBlock = some g) w1 w' := by
  have C := Lib.hid hC
  have nb1 : gn ≠ b := h1.ne_ hbb (by decide)
  have nb2 : gst ≠ b := h2.ne_ hbb (by decide)
  have nb3 : gs ≠ b := h3.ne_ hbb (by decide)
  have nb4 : bs ≠ b := h4.ne_ hbb (by decide)
  have c1 := h1.cell 0
  have c2 := h2.cell 0
  have l1 := h1.lt
  have l2 := h2.lt
  have l3 := h3.lt
  have l4 := h4.lt
  have H3 := Lib.hid h3
  have H4 := Lib.hid h4
  have HO := Lib.hid ho
  have HS := Lib.hid hbb
  clear h1 h2 h3 h4 ho hbb hC
  go_enter Tryz.func79, Tryz.ntmps79
  go_wp2_with fail
  ((with_reducible refine C.out.mono ?_); rintro e w1 ⟨⟨A1, n1, d1⟩, rfl, hR, hg1⟩)
  have H31 := H3.out.grown hg1 (by simpa using nb3)
  have H41 := H4.out.grown hg1 (by simpa using nb4)
  have hown1 := HO.out.kept hg1 (.inr (own_blk_ne HO.out HS.out (by decide)))
  have HO1 : Hid (w1.drew.ownsRow base 22 1 (.slice Ao E co) E (slsv vs)) := Lib.hid hown1
  have HG := Lib.hid hg1
  have HRR := Lib.hid hR
  have hsz : base ≤ w1.heap.size := Nat.le_trans hbase hg1.size
  have r1 : w1.cell? ⟨gs, 0, none⟩ = some (.pointer (some ⟨bs, 0, none⟩)) := H31.cell 0
  have r2 : w1.cell? ⟨bs, 3, none⟩ = some (.slice Ao E co) := H41.cell 3
  have HH4 : Hid (Blk w1.drew bs 186 (smpC bt st Ab q cb Ao E co)) := Lib.hid H41.drew
  have HH3 : Hid (Blk w1.drew gs 71 #[.pointer (some ⟨bs, 0, none⟩)]) := Lib.hid H31.drew
  have hS : (fun W : World => W.cell? ⟨gs, 0, none⟩ = some (.pointer (some ⟨bs, 0, none⟩)) ∧ W.cell? ⟨bs, 3, none⟩ = some (.slice Ao E co)) w1.drew := ⟨r1, r2⟩
  have HSN := Lib.hid (slsv_snoc vs (A1, n1, d1))
  clear hg1 H31 H41 c1 c2 hown1 hR l1 l2 l3 l4
  go_wp2_with fail
  refine wp_region_early (fun W : World => W.cell? ⟨gs, 0, none⟩ = some (.pointer (some ⟨bs, 0, none⟩)) ∧ W.cell? ⟨bs, 3, none⟩ = some (.slice Ao E co)) [0, 1, 2, 3, 4, 5] [6, 7] [8, 9, 10] (by kernel_rfl) (by kernel_rfl) hS ?_
  clear hS r1 r2
  simp only [List.filterMap_cons, List.filterMap_nil, List.getElem?_cons_succ, List.getElem?_cons_zero]
  refine early_step (.pointer (some ⟨bs, 0, none⟩)) rfl (fun W hW => ?_) ?_
  · obtain ⟨hc, hc'⟩ := hW
    go_simp
  go_simp
  refine early_step (.pointer (some ⟨bs, 0, none⟩)) rfl (fun W hW => ?_) ?_
  · obtain ⟨hc, hc'⟩ := hW
    go_simp
  go_simp
  refine early_step (.pointer (some ⟨bs, 0, none⟩)) rfl (fun W hW => ?_) ?_
  · go_simp
  go_simp
  refine early_step (.pointer (some ⟨bs, 3, none⟩)) rfl (fun W hW => ?_) ?_
  · go_simp
  go_simp
  refine early_step (.slice Ao E co) rfl (fun W hW => ?_) ?_
  · obtain ⟨hc, hc'⟩ := hW
    go_simp
  go_simp
  refine early_step (.slice A1 n1 d1) rfl (fun W hW => ?_) ?_
  · go_simp
  go_simp
  change RestW _ _ _ _ _ (_ :: _ :: []) _ _
  unfold RestW
  go_wp2_with fail
  refine ⟨⟨(HH3.out.alloc _).cell 0, (HH4.out.alloc _).cell 3⟩, ?_⟩
  unfold RestW
  change wpList _ _ _ (_ :: []) _ (w1.drew.alloc (.cells #[.slice A1 n1 d1] 22))
  go_wp2_with (at_builtin; go_must (refine wpList_pushG slRows rfl _ _ rfl base _ E (slsv vs) rfl HO1.out #[.slice A1 n1 d1] w1.heap.size rfl rfl rfl (uone_sl _ _ _) (by unfold maxLen; omega) (by omega) hsz ?_); go_must (intro A4 c4 w4 hown4 hb4 hg4; (have HB3 : Hid (Blk w4 gs 71 #[.pointer (some ⟨bs, 0, none⟩)]) := Lib.hid (HH3.out.other HO1.out hg4 (by decide))); (have HB4 : Hid (Blk w4 bs 186 (smpC bt st Ab q cb Ao E co)) := Lib.hid (HH4.out.other HO1.out hg4 (by decide))); (have f3 := HB4.out.frozen 3); (have d3 : w4.cell? ⟨bs, 3, none⟩ = some (.slice Ao E co) := HB4.out.cell 3); (have l4 := HB4.out.lt); (have HO4 := Lib.hid hown4); (have HG4 := Lib.hid hg4); clear hown4 hb4 hg4))
  refine ⟨HB3.out.cell 0, ?_⟩
  unfold RestW
  change wpList _ _ _ (_ :: _ :: _ :: []) _ _
  go_wp2_with fail
  refine NoPanic.normal ?_
  have hst := blk_set3 HB4.out (.slice A4 (E + 1) c4)
  have HST := Lib.hid hst
  clear hst
  go_wp2
  go_ret
  refine ⟨rfl, w1, (A1, n1, d1), A4, c4, HRR.out, HG.out, HST.out.2, ?_, ?_⟩
  · rw [HSN.out]
    exact HO4.out.kept HST.out.1 (.inr (own_blk_ne HO4.out HB4.out (by decide)))
  · have g4 : But (fun g => g = bs ∨ (Value.slice Ao E co).ownBlock = some g) w1.drew w4 := But.of_own HG4.out (fun g e => .inr e)
    exact ((But.of_below _ ((Below.refl _ _).drew)).trans g4).trans (But.of_gr HST.out.1 (.inl rfl))
end
end Go.Proofs.YtkmaeipoaoikpaaGreat
