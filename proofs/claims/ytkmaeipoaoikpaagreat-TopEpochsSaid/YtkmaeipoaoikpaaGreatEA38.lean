/-
  Lemmas and contracts (38): MachI, WorldP.
-/
import Derived.WalkKit
import Derived.WalkSpells
import Derived.WalkLawsBesides
import Derived.Lib.Hide
import Derived.Deep.QuietTactic
import Derived.BigQuiet
import Derived.IntWalk
import Derived.Deep.RegionHeld3
import Derived.Maps.AppendAt
import Derived.ProofKit
import Derived.OpenShut
import Derived.Deep.Slices
import Derived.Deep.Fields
import Derived.Test.YtkmaeipoaoikpaaGreatProg
import Derived.Laws.OwnMore
import Derived.Deep.Draws
import Derived.Laws.Rows
import Derived.Laws.EntriesVeiled
import Derived.RangeFuncNested
import Derived.RangeFuncBox
import Derived.RangeFuncLeaves
import Derived.Shelf.Abstract
import Derived.OwnWalkIn
import Derived.TacticsInMore
import Derived.LoopNIn
import Derived.LoopIn
import Derived.StillTail
import Derived.OrdersIn
import Derived.RangeFuncCalls
import Derived.OrdersHeld
import Derived.Laws.Bits64
import Derived.Deep.DeepMust
import Derived.Deep.DeepCutAuto
import Derived.BigRegion
import Derived.Laws.BitsAllLaws
import Derived.Test.YtkmaeipoaoikpaaGreatShelf
import Derived.SizedLaws
import Derived.Deep.OwnRows
import Derived.Laws.CopyOwn
import Derived.RangeFuncFrom
import Derived.OwnWalk
import Derived.WalkMore
import Derived.Maps.Own
import Derived.Maps.Views
import Derived.Maps.Keyed
import Derived.Maps.OwnOps
import Derived.Maps.Ext
import Derived.Carry
import Derived.Lib.SliceRun
import Derived.Test.YtkmaeipoaoikpaaGreatEA01
import Derived.Test.YtkmaeipoaoikpaaGreatEA02
import Derived.Test.YtkmaeipoaoikpaaGreatEA03
import Derived.Test.YtkmaeipoaoikpaaGreatEA04
import Derived.Test.YtkmaeipoaoikpaaGreatEA05
import Derived.Test.YtkmaeipoaoikpaaGreatEA06
import Derived.Test.YtkmaeipoaoikpaaGreatEA07
import Derived.Test.YtkmaeipoaoikpaaGreatEA08
import Derived.Test.YtkmaeipoaoikpaaGreatEA09
import Derived.Test.YtkmaeipoaoikpaaGreatEA10
import Derived.Test.YtkmaeipoaoikpaaGreatEA11
import Derived.Test.YtkmaeipoaoikpaaGreatEA12
import Derived.Test.YtkmaeipoaoikpaaGreatEA13
import Derived.Test.YtkmaeipoaoikpaaGreatEA14
import Derived.Test.YtkmaeipoaoikpaaGreatEA15
import Derived.Test.YtkmaeipoaoikpaaGreatEA16
import Derived.Test.YtkmaeipoaoikpaaGreatEA17
import Derived.Test.YtkmaeipoaoikpaaGreatEA18
import Derived.Test.YtkmaeipoaoikpaaGreatEA19
import Derived.Test.YtkmaeipoaoikpaaGreatEA20
import Derived.Test.YtkmaeipoaoikpaaGreatEA21
import Derived.Test.YtkmaeipoaoikpaaGreatEA22
import Derived.Test.YtkmaeipoaoikpaaGreatEA23
import Derived.Test.YtkmaeipoaoikpaaGreatEA24
import Derived.Test.YtkmaeipoaoikpaaGreatEA25
import Derived.Test.YtkmaeipoaoikpaaGreatEA26
import Derived.Test.YtkmaeipoaoikpaaGreatEA27
import Derived.Test.YtkmaeipoaoikpaaGreatEA28
import Derived.Test.YtkmaeipoaoikpaaGreatEA29
import Derived.Test.YtkmaeipoaoikpaaGreatEA30
import Derived.Test.YtkmaeipoaoikpaaGreatEA31
import Derived.Test.YtkmaeipoaoikpaaGreatEA32
import Derived.Test.YtkmaeipoaoikpaaGreatEA33
import Derived.Test.YtkmaeipoaoikpaaGreatEA34
import Derived.Test.YtkmaeipoaoikpaaGreatEA35
import Derived.Test.YtkmaeipoaoikpaaGreatEA36
import Derived.Test.YtkmaeipoaoikpaaGreatEA37
namespace Go.Proofs.YtkmaeipoaoikpaaGreat
set_option linter.unusedVariables false
set_option linter.unusedSimpArgs false
set_option maxRecDepth 100000
section
open Go.RowKit
def workMS (K : MC) (s : MS) (x : RItem) : MS :=
  if x.1.1 = 1 then { s with G := accG K s.P s.G (micL K x.1.2.1 x.1.2.2) }
  else if x.1.1 = 2 then { s with opn := s.opn ++ [x.1.2.2] }
  else if x.1.1 = 5 then
    match K.pc.bks[x.1.2.2.toNat]? with
    | some (lo, hi) => { s with P := applyP K.c.ra K.c.mo K.c.sh s.P s.M (pcL s.G lo.toNat (hi - lo).toNat) lo.toNat (hi - lo).toNat, M := applyM K.c.mo K.c.sh s.M (pcL s.G lo.toNat (hi - lo).toNat) lo.toNat (hi - lo).toNat, opn := dropB s.opn x.1.2.2 }
    | none => s
  else if x.1.1 = 6 then { s with rcd := s.rcd ++ [(s.P, s.M)], G := zeros K.NP }
  else s
structure ItemOk (K : MC) (x : RItem) : Prop where
  t : 0 ≤ x.1.2.1 ∧ x.1.2.1 ≤ 1000000
  one : x.1.1 = 1 → -1000 ≤ x.1.2.2 ∧ x.1.2.2 ≤ 1000
  five : x.1.1 = 5 → ∃ j : Nat, x.1.2.2 = j ∧ j < K.pc.nb
  act : x.1.1 = 3 ∨ x.1.1 = 4 → ∃ e e2 : Nat, x.2.2.2.1 = e ∧ x.2.2.2.2 = e2 ∧ e ≤ e2 ∧ e2 ≤ K.NP
structure MS.Small (s : MS) : Prop where
  cnt : s.cnt < 1000000000000
  opn : s.opn.length < 1000000
  rcd : s.rcd.length < 1000
end
section
open Go.RowKit
variable {S : Nat → Prop} {mb : Nat} {K : MC} {s : MS} {w W : World}
theorem do_pre (h : MachAt S w mb K s) (hb : Below w.heap.size w W) : MachAt (fun i => S i ∧ i < w.heap.size) W mb K s :=
  (h.mono (fun i hi hS => ⟨hS, hi⟩)).step hb.size (fun i hi hS => hb.block i hS.2)
theorem do_but {w' : World} (h : But (fun i => S i ∧ i < w.heap.size) W w') : But (fun i => i < w.heap.size) W w' := h.mono (fun i _ hi => hi.2)
theorem do_post {S1 : Nat → Prop} {w1 w' : World} (h1 : But S w w1) (h2 : But S1 w1 w') (hS : ∀ i, i < w.heap.size → S1 i → S i) : But S w w' :=
  ⟨h2.os.trans h1.os, h2.tape.trans h1.tape, h2.output.trans h1.output, Nat.le_trans h1.size h2.size, fun i hi hn => (h2.block i (Nat.lt_of_lt_of_le hi h1.size) (fun e => hn (hS i hi e))).trans (h1.block i hi hn)⟩
end
section
open Go.RowKit
theorem machDo_own (S : Nat → Prop) (mb : Nat) (K : MC) (s : MS) (x : RItem) (pl pr : Option Addr) (w : World) (hK : K.Ok) (h : MachAt S w mb K s) (hx : s.its[s.nx]? = some x) (hk : x.1.1 = 1 ∨ x.1.1 = 2 ∨ x.1.1 = 5 ∨ x.1.1 = 6) (hi : ItemOk K x) (hs : s.Small) :
    Calls Tryz.prog 128 #[.pointer (some ⟨mb, 0, none⟩), .pointer pl, .pointer pr] w fun e w' => e = .returned (.int .i64 0) ∧ MachAt (fun i => S i ∨ w.heap.size ≤ i) w' mb K (nextMS K (workMS K s x) x.1.2.1) ∧ But S w w' := by
  obtain ⟨⟨k1, t, u⟩, ⟨⟨sd, ad⟩, ⟨j1, j2, j3, j4, j5⟩, ⟨j6, j7⟩⟩⟩ := x
  have fin : ∀ (f : FuncId) (kk : Nat) (s1 : MS), k1 = (kk : Int) → (∀ W, (Instr.index 336 (.agg doersC) (.int .i64 kk)).run Tryz.prog W = .ok (fnV f) W) → (∀ args w, (callFunc f args).run Tryz.prog w = .ok (.enter f args) w) →
      s1.its = s.its → s1.nx = s.nx → s1.cnt = s.cnt → workMS K s ((k1, t, u), ((sd, ad), (j1, j2, j3, j4, j5), (j6, j7))) = s1 →
      (∀ W, Below w.heap.size w W → Calls Tryz.prog f #[.pointer (some ⟨mb, 0, none⟩), (.agg (mitC k1 t u sd ad j1 j2 j3 j4 j5 j6 j7)), .agg #[.pointer pl, .pointer pr]] W fun e w' => e = .returned (.int .i64 0) ∧ MachAt (fun i => (S i ∧ i < w.heap.size) ∨ W.heap.size ≤ i) w' mb K s1 ∧ But (fun i => S i ∧ i < w.heap.size) W w') →
      Calls Tryz.prog 128 #[.pointer (some ⟨mb, 0, none⟩), .pointer pl, .pointer pr] w fun e w' => e = .returned (.int .i64 0) ∧ MachAt (fun i => S i ∨ w.heap.size ≤ i) w' mb K (nextMS K (workMS K s ((k1, t, u), ((sd, ad), (j1, j2, j3, j4, j5), (j6, j7)))) t) ∧ But S w w' := by
    intro f kk s1 hkk hix he h1 h2 h3 hw hf
    subst hkk
    rw [hw]
    refine (machDo_core S (fun i => S i ∨ w.heap.size ≤ i) (fun w1 => But S w w1) mb K s s1 f kk t u sd ad j1 j2 j3 j4 j5 j6 j7 pl pr w hK h hx hix he (fun W hb => (hf W hb).mono ?_) h1 h2 h3 hs.cnt hi.t).mono ?_
    · rintro e w' ⟨rfl, hm, hbu⟩
      refine ⟨rfl, hm.mono (fun i _ hi' => ?_), (But.of_below S hb).trans (hbu.mono (fun i _ hi' => hi'.1)), do_but hbu⟩
      rcases hi' with hi' | hi'
      · exact .inl hi'.1
      · exact .inr (Nat.le_trans hb.size hi')
    · rintro e w' ⟨rfl, w1, hr, hz, -, hb2, hm⟩
      refine ⟨rfl, hm.mono (fun i _ hi' => ?_), do_post hr hb2 (fun i hi' hs1 => ?_)⟩
      · rcases hi' with hi' | hi'
        · exact hi'
        · exact .inr (Nat.le_trans hz hi')
      · rcases hs1 with hs1 | hs1
        · exact hs1
        · omega
  have hk' : k1 = 1 ∨ k1 = 2 ∨ k1 = 5 ∨ k1 = 6 := hk
  rcases hk' with rfl | rfl | rfl | rfl
  · refine fin 231 1 { s with G := accG K s.P s.G (micL K t u) } rfl (fun W => rfl) (fun _ _ => rfl) rfl rfl rfl rfl (fun W hb => ?_)
    exact machCompute_any _ mb K s 1 t u sd ad j1 j2 j3 j4 j5 j6 j7 pl pr W hK (do_pre h hb) (hi.one rfl)
  · refine fin 232 2 { s with opn := s.opn ++ [u] } rfl (fun W => rfl) (fun _ _ => rfl) rfl rfl rfl rfl (fun W hb => ?_)
    exact machLaunch_any _ mb K s 2 t u sd ad j1 j2 j3 j4 j5 j6 j7 pl pr W (do_pre h hb) hs.opn
  · obtain ⟨j, hj, hjn⟩ := hi.five rfl
    have hj' : u = (j : Int) := hj
    subst hj'
    have hlt : j < K.pc.bks.length := by rw [PlC.bks_length]; exact hjn
    obtain ⟨y, hy⟩ : ∃ y, K.pc.bks[j]? = some y := ⟨_, List.getElem?_eq_getElem hlt⟩
    obtain ⟨b1, b2, b3⟩ := PlC.bks_in hy
    rw [hK.pcP] at b3
    obtain ⟨y1, y2⟩ := y
    dsimp only at b1 b2 b3
    obtain ⟨lo, rfl⟩ : ∃ n : Nat, y1 = n := ⟨y1.toNat, by omega⟩
    obtain ⟨hi', rfl⟩ : ∃ n : Nat, y2 = n := ⟨y2.toNat, by omega⟩
    have e : workMS K s ((5, t, (j : Int)), ((sd, ad), (j1, j2, j3, j4, j5), (j6, j7))) = { s with P := applyP K.c.ra K.c.mo K.c.sh s.P s.M (pcL s.G lo (hi' - lo)) lo (hi' - lo), M := applyM K.c.mo K.c.sh s.M (pcL s.G lo (hi' - lo)) lo (hi' - lo), opn := dropB s.opn j } := by
      unfold workMS
      rw [if_neg (show ¬ ((5 : Int) = 1) by decide), if_neg (show ¬ ((5 : Int) = 2) by decide), if_pos rfl]
      simp only [Int.toNat_natCast, hy]
      rw [show ((hi' : Int) - (lo : Int)).toNat = hi' - lo by omega]
    refine fin 235 5 { s with P := applyP K.c.ra K.c.mo K.c.sh s.P s.M (pcL s.G lo (hi' - lo)) lo (hi' - lo), M := applyM K.c.mo K.c.sh s.M (pcL s.G lo (hi' - lo)) lo (hi' - lo), opn := dropB s.opn j } rfl (fun W => rfl) (fun _ _ => rfl) rfl rfl rfl e (fun W hb => ?_)
    exact machUpdate_any _ mb K s 5 t j sd ad j1 j2 j3 j4 j5 j6 j7 pl pr W lo hi' (hi' - lo) hK (do_pre h hb) hy (by omega) (by omega)
  · refine fin 236 6 { s with rcd := s.rcd ++ [(s.P, s.M)], G := zeros K.NP } rfl (fun W => rfl) (fun _ _ => rfl) rfl rfl rfl rfl (fun W hb => ?_)
    exact machRecord_any _ mb K s 6 t u sd ad j1 j2 j3 j4 j5 j6 j7 pl pr W hK (do_pre h hb) hs.rcd
theorem machDo_send (S T : Nat → Prop) (mb : Nat) (K : MC) (s : MS) (x : RItem) (pl : Option Addr) (lb cp sn rc : Nat) (q : List (TagN × List Int)) (w : World) (hK : K.Ok) (h : MachAt S w mb K s) (hL : LinkAt T w lb cp sn rc q) (hd : ∀ i, i < w.heap.size → S i → ¬ T i) (hroom : sn - rc < cp) (hs9 : sn < 1000000000) (hx : s.its[s.nx]? = some x) (hk : x.1.1 = 3) (hi : ItemOk K x) (hs : s.Small) :
    Calls Tryz.prog 128 #[.pointer (some ⟨mb, 0, none⟩), .pointer pl, .pointer (some ⟨lb, 0, none⟩)] w fun e w' => e = .returned (.int .i64 0) ∧ ∃ B, w.heap.size ≤ B ∧ MachAt (fun i => S i ∨ B ≤ i) w' mb K (nextMS K s x.1.2.1) ∧ LinkAt (fun i => T i ∨ (w.heap.size ≤ i ∧ i < B)) w' lb cp (sn + 1) rc (q ++ [(x.2.2.1, pcL s.G x.2.2.2.1.toNat (x.2.2.2.2 - x.2.2.2.1).toNat)]) ∧ But (fun i => S i ∨ T i) w w' := by
  obtain ⟨⟨k1, t, u⟩, ⟨⟨sd, ad⟩, ⟨j1, j2, j3, j4, j5⟩, ⟨j6, j7⟩⟩⟩ := x
  have hk' : k1 = 3 := hk
  subst hk'
  obtain ⟨e, e2, h6, h7, h8, h9⟩ := hi.act (.inl rfl)
  have h6' : j6 = (e : Int) := h6
  have h7' : j7 = (e2 : Int) := h7
  subst h6' h7'
  have hT : Hid (∀ i, T i → True) := Lib.hid (fun _ _ => trivial)
  have hL' : LinkAt (fun i => T i ∧ i < w.heap.size) w lb cp sn rc q := hL.mono (fun i hi hT => ⟨hT, hi⟩)
  refine (machDo_core S (fun i => S i ∧ i < w.heap.size) (fun w1 => LinkAt (fun i => (T i ∧ i < w.heap.size) ∨ w.heap.size ≤ i) w1 lb cp (sn + 1) rc (q ++ [((j1, j2, j3, j4, j5), pcL s.G e (e2 - e))]) ∧ But (fun i => T i) w w1) mb K s s 233 3 t u sd ad j1 j2 j3 j4 j5 e e2 pl (some ⟨lb, 0, none⟩) w hK h hx (fun W => rfl) (fun _ _ => rfl) (fun W hb => ?_) rfl rfl rfl hs.cnt hi.t).mono ?_
  · refine (machSend_any (fun i => S i ∧ i < w.heap.size) (fun i => T i ∧ i < w.heap.size) mb K s 3 t u sd ad j1 j2 j3 j4 j5 e e2 (e2 - e) pl lb cp sn rc q W hK (do_pre h hb) (hL'.step hb.size (fun i hi hT => hb.block i hT.2)) (fun i hi hT => hd i hi.2 hi.1 hT.1) hroom hs9 (by omega) h9).mono ?_
    rintro en w' ⟨rfl, hm, hl, hbu⟩
    refine ⟨rfl, hm, ⟨hl.mono (fun i _ hi => ?_), (But.of_below _ hb).trans (hbu.mono (fun i _ hi => hi.1))⟩, hbu.mono (fun i _ hi => hi.2)⟩
    rcases hi with hi | hi
    · exact .inl hi
    · exact .inr (Nat.le_trans hb.size hi)
  · rintro en w' ⟨rfl, w1, ⟨hl, hbt⟩, hz, -, hb2, hm⟩
    refine ⟨rfl, w1.heap.size, hz, hm.mono (fun i _ hi => ?_), ?_, do_post (S := fun i => S i ∨ T i) (hbt.mono (fun i _ hi => .inr hi)) hb2 (fun i _ hi => .inl hi.1)⟩
    · rcases hi with hi | hi
      · exact .inl hi.1
      · exact .inr hi
    · have e1 : ((e2 : Int) - (e : Int)).toNat = e2 - e := by omega
      dsimp only
      rw [e1, Int.toNat_natCast]
      refine (hl.mono (T := fun i => T i ∨ (w.heap.size ≤ i ∧ i < w1.heap.size)) (fun i hi hT => ?_)).step hb2.size (fun i hi hT => hb2.block i hi (fun hS => ?_))
      · rcases hT with hT | hT
        · exact .inl hT.1
        · exact .inr ⟨hT, hi⟩
      · rcases hT with hT | hT
        · exact hd i hS.2 hS.1 hT
        · have := hS.2
          omega
theorem machDo_recv (S T : Nat → Prop) (mb : Nat) (K : MC) (s : MS) (x : RItem) (pr : Option Addr) (lb cp sn rc : Nat) (vs : List Int) (q : List (TagN × List Int)) (w : World) (hK : K.Ok) (h : MachAt S w mb K s) (hL : LinkAt T w lb cp sn rc ((x.2.2.1, vs) :: q)) (hd : ∀ i, i < w.heap.size → S i → ¬ T i) (hx : s.its[s.nx]? = some x) (hk : x.1.1 = 4) (hi : ItemOk K x) (hs : s.Small) (hv : vs.length = (x.2.2.2.2 - x.2.2.2.1).toNat) :
    Calls Tryz.prog 128 #[.pointer (some ⟨mb, 0, none⟩), .pointer (some ⟨lb, 0, none⟩), .pointer pr] w fun e w' => e = .returned (.int .i64 0) ∧ ∃ B, w.heap.size ≤ B ∧ MachAt (fun i => S i ∨ B ≤ i) w' mb K (nextMS K { s with G := recvG x.2.1.2 s.G x.2.2.2.1.toNat (x.2.2.2.2 - x.2.2.2.1).toNat vs } x.1.2.1) ∧ LinkAt T w' lb cp sn (rc + 1) q ∧ But (fun i => S i ∨ T i) w w' := by
  obtain ⟨⟨k1, t, u⟩, ⟨⟨sd, ad⟩, ⟨j1, j2, j3, j4, j5⟩, ⟨j6, j7⟩⟩⟩ := x
  have hk' : k1 = 4 := hk
  subst hk'
  obtain ⟨e, e2, h6, h7, h8, h9⟩ := hi.act (.inr rfl)
  have h6' : j6 = (e : Int) := h6
  have h7' : j7 = (e2 : Int) := h7
  subst h6' h7'
  have e1 : ((e2 : Int) - (e : Int)).toNat = e2 - e := by omega
  dsimp only at hL hv ⊢
  rw [e1] at hv
  rw [e1, Int.toNat_natCast]
  have hL' : LinkAt (fun i => T i ∧ i < w.heap.size) w lb cp sn rc (((j1, j2, j3, j4, j5), vs) :: q) := hL.mono (fun i hi hT => ⟨hT, hi⟩)
  refine (machDo_core S (fun i => S i ∧ i < w.heap.size) (fun w1 => LinkAt (fun i => T i ∧ i < w.heap.size) w1 lb cp sn (rc + 1) q ∧ But (fun i => S i ∨ T i) w w1) mb K s { s with G := recvG ad s.G e (e2 - e) vs } 234 4 t u sd ad j1 j2 j3 j4 j5 e e2 (some ⟨lb, 0, none⟩) pr w hK h hx (fun W => rfl) (fun _ _ => rfl) (fun W hb => ?_) rfl rfl rfl hs.cnt hi.t).mono ?_
  · refine (machReceive_any (fun i => S i ∧ i < w.heap.size) (fun i => T i ∧ i < w.heap.size) mb K s 4 t u sd ad j1 j2 j3 j4 j5 e e2 (e2 - e) pr lb cp sn rc vs q W hK (do_pre h hb) (hL'.step hb.size (fun i hi hT => hb.block i hT.2)) (fun i hi hT => hd i hi.2 hi.1 hT.1) (by omega) h9 hv).mono ?_
    rintro en w' ⟨rfl, hm, hl, hbu⟩
    refine ⟨rfl, hm, ⟨hl, (But.of_below _ hb).trans (hbu.mono (fun i _ hi => ?_))⟩, hbu.mono (fun i _ hi => ?_)⟩
    · rcases hi with hi | hi
      · exact .inl hi.1
      · exact .inr hi.1
    · rcases hi with hi | hi
      · exact hi.2
      · exact hi.2
  · rintro en w' ⟨rfl, w1, ⟨hl, hbt⟩, hz, -, hb2, hm⟩
    refine ⟨rfl, w1.heap.size, hz, hm.mono (fun i _ hi => ?_), ?_, do_post hbt hb2 (fun i _ hi => .inl hi.1)⟩
    · rcases hi with hi | hi
      · exact .inl hi.1
      · exact .inr hi
    · exact (hl.mono (T := T) (fun i hi hT => hT.1)).step hb2.size (fun i hi hT => hb2.block i hi (fun hS => hd i hS.2 hS.1 hT))
end
section
open Go.RowKit
structure LS where
  s : Nat
  r : Nat
  q : List (TagN × List Int)
abbrev worldC (AW : Option Addr) (n cW : Nat) (AL : Option Addr) (k cL cnt : Nat) : Array Value := #[.slice AW n cW, .slice AL k cL, .int .i64 cnt]
abbrev ifV (b : Nat) : Value := .iface 37 (.pointer (some ⟨b, 0, none⟩))
abbrev ptV (b : Nat) : Value := .pointer (some ⟨b, 0, none⟩)
theorem slWk : Sl Tryz.prog 122 212 .nilIface 1 16 := ⟨Tryz.underlying122, by kernel_rfl, rfl, by omega⟩
theorem slLn : Sl Tryz.prog 123 126 (.pointer none) 1 8 := ⟨Tryz.underlying123, by kernel_rfl, rfl, by omega⟩
structure Parts (own : Nat → Nat) (w : World) (I : InC) (mbs lbs : List Nat) (mss : List MS) (lss : List LS) : Prop where
  lm : mss.length = mbs.length
  ll : lss.length = lbs.length
  mach : ∀ (i b : Nat) (s : MS), mbs[i]? = some b → mss[i]? = some s → MachAt (fun j => own j = 2 * i + 2) w b (I.mc i) s
  link : ∀ (i b : Nat) (l : LS), lbs[i]? = some b → lss[i]? = some l → LinkAt (fun j => own j = 2 * i + 3) w b I.c.ca.toNat l.s l.r l.q
end
section
open Go.RowKit
variable {own own' : Nat → Nat} {w w' : World} {I : InC} {mbs lbs : List Nat} {mss : List MS} {lss : List LS}
theorem Parts.move (h : Parts own w I mbs lbs mss lss) (hs : w.heap.size ≤ w'.heap.size) (hb : ∀ i, i < w.heap.size → 2 ≤ own i → w'.heap[i]? = w.heap[i]?) (hl : ∀ i, i < w.heap.size → own' i = own i) : Parts own' w' I mbs lbs mss lss :=
  ⟨h.lm, h.ll, fun i b s h1 h2 => ((h.mach i b s h1 h2).mono (T := fun j => own' j = 2 * i + 2) (fun j hj e => by rw [hl j hj]; exact e)).step hs (fun j hj e => hb j hj (by rw [← hl j hj, e]; omega)),
    fun i b l h1 h2 => ((h.link i b l h1 h2).mono (T := fun j => own' j = 2 * i + 3) (fun j hj e => by rw [hl j hj]; exact e)).step hs (fun j hj e => hb j hj (by rw [← hl j hj, e]; omega))⟩
theorem Parts.below (h : Parts own w I mbs lbs mss lss) (hb : Below w.heap.size w w') (hl : ∀ i, i < w.heap.size → own' i = own i) : Parts own' w' I mbs lbs mss lss := h.move hb.size (fun i hi _ => hb.block i hi) hl
theorem Parts.addM (h : Parts own w I mbs lbs mss lss) {b : Nat} {s : MS} {k : Nat} (hk : mbs.length = k) (hm : MachAt (fun j => own j = 2 * k + 2) w b (I.mc k) s) : Parts own w I (mbs ++ [b]) lbs (mss ++ [s]) lss := by
  refine ⟨by simp [h.lm], h.ll, fun i b' s' h1 h2 => ?_, h.link⟩
  by_cases hi : i < mbs.length
  · rw [List.getElem?_append_left hi] at h1
    rw [List.getElem?_append_left (by rw [h.lm]; exact hi)] at h2
    exact h.mach i b' s' h1 h2
  · have hi2 : i < (mbs ++ [b]).length := (List.getElem?_eq_some_iff.1 h1).1
    obtain rfl : i = k := by simp at hi2; omega
    rw [List.getElem?_append_right (by omega), hk, Nat.sub_self] at h1
    rw [List.getElem?_append_right (by rw [h.lm]; omega), h.lm, hk, Nat.sub_self] at h2
    simp at h1 h2
    subst h1 h2
    exact hm
theorem Parts.addL (h : Parts own w I mbs lbs mss lss) {b : Nat} {l : LS} {k : Nat} (hk : lbs.length = k) (hm : LinkAt (fun j => own j = 2 * k + 3) w b I.c.ca.toNat l.s l.r l.q) : Parts own w I mbs (lbs ++ [b]) mss (lss ++ [l]) := by
  refine ⟨h.lm, by simp [h.ll], h.mach, fun i b' s' h1 h2 => ?_⟩
  by_cases hi : i < lbs.length
  · rw [List.getElem?_append_left hi] at h1
    rw [List.getElem?_append_left (by rw [h.ll]; exact hi)] at h2
    exact h.link i b' s' h1 h2
  · have hi2 : i < (lbs ++ [b]).length := (List.getElem?_eq_some_iff.1 h1).1
    obtain rfl : i = k := by simp at hi2; omega
    rw [List.getElem?_append_right (by omega), hk, Nat.sub_self] at h1
    rw [List.getElem?_append_right (by rw [h.ll]; omega), h.ll, hk, Nat.sub_self] at h2
    simp at h1 h2
    subst h1 h2
    exact hm
structure WorldIn (own : Nat → Nat) (w : World) (xb : Nat) (I : InC) (mbs lbs : List Nat) (mss : List MS) (lss : List LS) (AW : Option Addr) (cW : Nat) (AL : Option Addr) (cL cnt : Nat) : Prop where
  blk : Blk w xb 125 (worldC AW mbs.length cW AL lbs.length cL cnt)
  ox : own xb = 1
  wrow : w.ownsRow 0 212 1 (.slice AW mbs.length cW) mbs.length (mbs.map ifV)
  lrow : w.ownsRow 0 126 1 (.slice AL lbs.length cL) lbs.length (lbs.map ptV)
  ow : ∀ g, blkOf AW = some g → own g = 1
  ol : ∀ g, blkOf AL = some g → own g = 1
  parts : Parts own w I mbs lbs mss lss
theorem WorldIn.step {xb : Nat} {AW AL : Option Addr} {cW cL cnt : Nat} (h : WorldIn own w xb I mbs lbs mss lss AW cW AL cL cnt) (hs : w.heap.size ≤ w'.heap.size) (hb : ∀ i, i < w.heap.size → 1 ≤ own i → w'.heap[i]? = w.heap[i]?) (hl : ∀ i, i < w.heap.size → own' i = own i) : WorldIn own' w' xb I mbs lbs mss lss AW cW AL cL cnt :=
  ⟨(hb xb h.blk.lt (by rw [h.ox]; exact Nat.le_refl _)).trans h.blk, (hl xb h.blk.lt).trans h.ox, Hg.own (S := fun i => own i = 1) h.wrow (fun g hg => h.ow g ((own_blkOf _ _ _).symm.trans hg)) w' hs (fun i hi e => hb i hi (by omega)),
    Hg.own (S := fun i => own i = 1) h.lrow (fun g hg => h.ol g ((own_blkOf _ _ _).symm.trans hg)) w' hs (fun i hi e => hb i hi (by omega)), fun g hg => (hl g (h.wrow.lt g ((own_blkOf _ _ _).trans hg)).2).trans (h.ow g hg), fun g hg => (hl g (h.lrow.lt g ((own_blkOf _ _ _).trans hg)).2).trans (h.ol g hg), h.parts.move hs (fun i hi e => hb i hi (by omega)) hl⟩
theorem WorldIn.below {xb : Nat} {AW AL : Option Addr} {cW cL cnt : Nat} (h : WorldIn own w xb I mbs lbs mss lss AW cW AL cL cnt) (hb : Below w.heap.size w w') (hl : ∀ i, i < w.heap.size → own' i = own i) : WorldIn own' w' xb I mbs lbs mss lss AW cW AL cL cnt := h.step hb.size (fun i hi _ => hb.block i hi) hl
end
section
open Go.RowKit
def lab (own : Nat → Nat) (n k : Nat) : Nat → Nat := fun j => if j < n then own j else k
theorem lab_old (own : Nat → Nat) (n k : Nat) : ∀ i, i < n → lab own n k i = own i := fun i hi => if_pos hi
theorem lab_new (own : Nat → Nat) (n k : Nat) {i : Nat} (hi : n ≤ i) : lab own n k i = k := if_neg (by omega)
theorem lab_pos {own : Nat → Nat} {n k B : Nat} (h : ∀ j, own j ≠ 0 → B ≤ j) (hB : B ≤ n) : ∀ j, lab own n k j ≠ 0 → B ≤ j := by
  intro j hj
  unfold lab at hj
  split at hj
  · exact h j hj
  · omega
end
section
open Go.RowKit
variable {own : Nat → Nat} {w wa : World} {I : InC} {mbs lbs : List Nat} {mss mss' : List MS} {lss lss' : List LS} {xb : Nat} {AW AL : Option Addr} {cW cL cnt : Nat}
theorem push_parts (h : WorldIn own w xb I mbs lbs mss lss AW cW AL cL cnt) {A : Option Addr} {n c o : Nat} {u : Value} {mbs' lbs' : List Nat} (hp : Parts own w I mbs' lbs' mss' lss') (hA : ∀ g, (Value.slice A n c).ownBlock = some g → own g = 1) (hgr : w.grownBy wa (Value.slice A n c).ownBlock) :
    Parts (lab own w.heap.size 1) (wa.setCell ⟨xb, o, none⟩ u) I mbs' lbs' mss' lss' := by
  have hg2 := gr_set (p := ⟨xb, o, none⟩) (World.grownBy.refl wa (some xb)) (.inl rfl) u
  refine hp.move (Nat.le_trans hgr.size hg2.size) (fun i hi e => ?_) (lab_old _ _ _)
  have h1 : wa.heap[i]? = w.heap[i]? := hgr.block i hi (fun e1 => by have := hA i e1.symm; omega)
  have h2 := hg2.block i (Nat.lt_of_lt_of_le hi hgr.size) (fun e1 => by injection e1 with e1; subst e1; have := h.ox; omega)
  exact h2.trans h1
theorem WorldIn.addW (h : WorldIn own w xb I mbs lbs mss lss AW cW AL cL cnt) {mb : Nat} {A' : Option Addr} {c' : Nat} (hp : Parts own w I (mbs ++ [mb]) lbs mss' lss) (hgr : w.grownBy wa (Value.slice AW mbs.length cW).ownBlock) (hO : wa.ownsRow 0 212 1 (.slice A' (mbs.length + 1) c') (mbs.length + 1) (mbs.map ifV ++ [ifV mb]))
    (hat : ∀ g, (Value.slice A' (mbs.length + 1) c').ownBlock = some g → (Value.slice AW mbs.length cW).ownBlock = some g ∨ w.heap.size < g) : WorldIn (lab own w.heap.size 1) (wa.setCell ⟨xb, 0, none⟩ (.slice A' (mbs.length + 1) c')) xb I (mbs ++ [mb]) lbs mss' lss A' c' AL cL cnt := by
  have hg2 := gr_set (p := ⟨xb, 0, none⟩) (World.grownBy.refl wa (some xb)) (.inl rfl) (.slice A' (mbs.length + 1) c')
  have hk := h.blk.other h.wrow hgr (by decide)
  have hl := h.lrow.kept hgr (lnk_own_none h.lrow h.wrow (by decide))
  have e1 : (mbs ++ [mb]).length = mbs.length + 1 := by simp
  refine ⟨?_, (lab_old _ _ _ xb h.blk.lt).trans h.ox, ?_, hl.kept hg2 (.inr (own_blk_ne hl hk (by decide))), fun g hg => ?_, fun g hg => ?_, push_parts h hp (fun g hg => h.ow g ((own_blkOf _ _ _).symm.trans hg)) hgr⟩
  · rw [e1]
    simpa [worldC] using hk.set_ 0 (.slice A' (mbs.length + 1) c')
  · rw [e1, List.map_append]
    exact hO.kept hg2 (.inr (own_blk_ne hO hk (by decide)))
  · rcases hat g ((own_blkOf _ _ _).trans hg) with h1 | h1
    · have hlt := (h.wrow.lt g h1).2
      rw [lab_old _ _ _ g hlt]
      exact h.ow g ((own_blkOf _ _ _).symm.trans h1)
    · exact lab_new _ _ _ (Nat.le_of_lt h1)
  · rw [lab_old _ _ _ g (h.lrow.lt g ((own_blkOf _ _ _).trans hg)).2]
    exact h.ol g hg
theorem WorldIn.addK (h : WorldIn own w xb I mbs lbs mss lss AW cW AL cL cnt) {lb : Nat} {A' : Option Addr} {c' : Nat} (hp : Parts own w I mbs (lbs ++ [lb]) mss lss') (hgr : w.grownBy wa (Value.slice AL lbs.length cL).ownBlock) (hO : wa.ownsRow 0 126 1 (.slice A' (lbs.length + 1) c') (lbs.length + 1) (lbs.map ptV ++ [ptV lb]))
    (hat : ∀ g, (Value.slice A' (lbs.length + 1) c').ownBlock = some g → (Value.slice AL lbs.length cL).ownBlock = some g ∨ w.heap.size < g) : WorldIn (lab own w.heap.size 1) (wa.setCell ⟨xb, 1, none⟩ (.slice A' (lbs.length + 1) c')) xb I mbs (lbs ++ [lb]) mss lss' AW cW A' c' cnt := by
  have hg2 := gr_set (p := ⟨xb, 1, none⟩) (World.grownBy.refl wa (some xb)) (.inl rfl) (.slice A' (lbs.length + 1) c')
  have hk := h.blk.other h.lrow hgr (by decide)
  have hl := h.wrow.kept hgr (lnk_own_none h.wrow h.lrow (by decide))
  have e1 : (lbs ++ [lb]).length = lbs.length + 1 := by simp
  refine ⟨?_, (lab_old _ _ _ xb h.blk.lt).trans h.ox, hl.kept hg2 (.inr (own_blk_ne hl hk (by decide))), ?_, fun g hg => ?_, fun g hg => ?_, push_parts h hp (fun g hg => h.ol g ((own_blkOf _ _ _).symm.trans hg)) hgr⟩
  · rw [e1]
    simpa [worldC] using hk.set_ 1 (.slice A' (lbs.length + 1) c')
  · rw [e1, List.map_append]
    exact hO.kept hg2 (.inr (own_blk_ne hO hk (by decide)))
  · rw [lab_old _ _ _ g (h.wrow.lt g ((own_blkOf _ _ _).trans hg)).2]
    exact h.ow g hg
  · rcases hat g ((own_blkOf _ _ _).trans hg) with h1 | h1
    · have hlt := (h.lrow.lt g h1).2
      rw [lab_old _ _ _ g hlt]
      exact h.ol g ((own_blkOf _ _ _).symm.trans h1)
    · exact lab_new _ _ _ (Nat.le_of_lt h1)
end
section
open Go.RowKit
theorem link_start {w : World} {b cp : Nat} {S : Nat → Prop} (h : Blk w b 243 (lnkC none 0 0 cp 0 0 0)) (h1 : 1 ≤ cp) (h2 : cp ≤ 1048576) (hS : S b) : LinkAt S w b cp 0 0 [] :=
  ⟨none, 0, 0, 0, [], hS, h, World.ownsRow_nil _ _ _ _, fun g hg => by simp [Value.ownBlock] at hg, rfl, (Nat.zero_min _).symm, rfl, Nat.le_refl _, Nat.zero_le _, by omega, h1, h2, fun j hj => by omega⟩
def startL (I : InC) (k : Nat) : List MS := (List.range k).map (startMS I)
def startK (k : Nat) : List LS := List.replicate k ⟨0, 0, []⟩
theorem startL_succ (I : InC) (k : Nat) : startL I (k + 1) = startL I k ++ [startMS I k] := by simp [startL, List.range_succ]
theorem startK_succ (k : Nat) : startK (k + 1) = startK k ++ [⟨0, 0, []⟩] := by simp [startK, List.replicate_succ']
def WorldAt (B : Nat) (w : World) (xb : Nat) (I : InC) (mss : List MS) (lss : List LS) (cnt : Nat) : Prop := ∃ own mbs lbs AW cW AL cL, WorldIn own w xb I mbs lbs mss lss AW cW AL cL cnt ∧ mbs.length = I.c.wk.toNat ∧ lbs.length = I.c.wk.toNat ∧ (∀ j, own j ≠ 0 → B ≤ j)
end
end Go.Proofs.YtkmaeipoaoikpaaGreat
