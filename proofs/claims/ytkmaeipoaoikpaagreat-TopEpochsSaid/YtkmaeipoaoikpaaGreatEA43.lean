/-
  Lemmas and contracts (43): Epochs.
-/
import Derived.WalkKit
import Derived.WalkSpells
import Derived.WalkLawsBesides
import Derived.Lib.Hide
import Derived.Deep.QuietTactic
import Derived.BigQuiet
import Derived.IntWalk
import Derived.Deep.RegionHeld3
import Derived.Maps.AppendAt
import Derived.ProofKit
import Derived.OpenShut
import Derived.Deep.Slices
import Derived.Deep.Fields
import Derived.Test.YtkmaeipoaoikpaaGreatProg
import Derived.Laws.OwnMore
import Derived.Deep.Draws
import Derived.Laws.Rows
import Derived.Laws.EntriesVeiled
import Derived.RangeFuncNested
import Derived.RangeFuncBox
import Derived.RangeFuncLeaves
import Derived.Shelf.Abstract
import Derived.OwnWalkIn
import Derived.TacticsInMore
import Derived.LoopNIn
import Derived.LoopIn
import Derived.StillTail
import Derived.OrdersIn
import Derived.RangeFuncCalls
import Derived.OrdersHeld
import Derived.Laws.Bits64
import Derived.Deep.DeepMust
import Derived.Deep.DeepCutAuto
import Derived.BigRegion
import Derived.Laws.BitsAllLaws
import Derived.Test.YtkmaeipoaoikpaaGreatShelf
import Derived.SizedLaws
import Derived.Deep.OwnRows
import Derived.Laws.CopyOwn
import Derived.RangeFuncFrom
import Derived.OwnWalk
import Derived.WalkMore
import Derived.Maps.Own
import Derived.Maps.Views
import Derived.Maps.Keyed
import Derived.Maps.OwnOps
import Derived.Maps.Ext
import Derived.Carry
import Derived.Lib.SliceRun
import Derived.ScopeJumps
import Derived.Maps.OwnIn
import Derived.Test.YtkmaeipoaoikpaaGreatEA01
import Derived.Test.YtkmaeipoaoikpaaGreatEA02
import Derived.Test.YtkmaeipoaoikpaaGreatEA03
import Derived.Test.YtkmaeipoaoikpaaGreatEA04
import Derived.Test.YtkmaeipoaoikpaaGreatEA05
import Derived.Test.YtkmaeipoaoikpaaGreatEA06
import Derived.Test.YtkmaeipoaoikpaaGreatEA07
import Derived.Test.YtkmaeipoaoikpaaGreatEA08
import Derived.Test.YtkmaeipoaoikpaaGreatEA09
import Derived.Test.YtkmaeipoaoikpaaGreatEA10
import Derived.Test.YtkmaeipoaoikpaaGreatEA11
import Derived.Test.YtkmaeipoaoikpaaGreatEA12
import Derived.Test.YtkmaeipoaoikpaaGreatEA13
import Derived.Test.YtkmaeipoaoikpaaGreatEA14
import Derived.Test.YtkmaeipoaoikpaaGreatEA15
import Derived.Test.YtkmaeipoaoikpaaGreatEA16
import Derived.Test.YtkmaeipoaoikpaaGreatEA17
import Derived.Test.YtkmaeipoaoikpaaGreatEA18
import Derived.Test.YtkmaeipoaoikpaaGreatEA19
import Derived.Test.YtkmaeipoaoikpaaGreatEA20
import Derived.Test.YtkmaeipoaoikpaaGreatEA21
import Derived.Test.YtkmaeipoaoikpaaGreatEA22
import Derived.Test.YtkmaeipoaoikpaaGreatEA23
import Derived.Test.YtkmaeipoaoikpaaGreatEA24
import Derived.Test.YtkmaeipoaoikpaaGreatEA25
import Derived.Test.YtkmaeipoaoikpaaGreatEA26
import Derived.Test.YtkmaeipoaoikpaaGreatEA27
import Derived.Test.YtkmaeipoaoikpaaGreatEA28
import Derived.Test.YtkmaeipoaoikpaaGreatEA29
import Derived.Test.YtkmaeipoaoikpaaGreatEA30
import Derived.Test.YtkmaeipoaoikpaaGreatEA31
import Derived.Test.YtkmaeipoaoikpaaGreatEA32
import Derived.Test.YtkmaeipoaoikpaaGreatEA33
import Derived.Test.YtkmaeipoaoikpaaGreatEA34
import Derived.Test.YtkmaeipoaoikpaaGreatEA35
import Derived.Test.YtkmaeipoaoikpaaGreatEA36
import Derived.Test.YtkmaeipoaoikpaaGreatEA37
import Derived.Test.YtkmaeipoaoikpaaGreatEA38
import Derived.Test.YtkmaeipoaoikpaaGreatEA39
import Derived.Test.YtkmaeipoaoikpaaGreatEA40
import Derived.Test.YtkmaeipoaoikpaaGreatEA41
import Derived.Test.YtkmaeipoaoikpaaGreatEA42
namespace Go.Proofs.YtkmaeipoaoikpaaGreat
set_option linter.unusedVariables false
set_option linter.unusedSimpArgs false
set_option maxRecDepth 100000
section
open Go.RowKit
theorem smpP_top {n b st : Nat} (hb1 : 1 ≤ b) (hbn : b ≤ n) (hn : n ≤ 60) (hst : st ≤ 60) : SmpP n b st (n / b) (cnt st (n / b)) := by
  have hq1 : 1 ≤ n / b := (Nat.one_le_div_iff (by omega)).2 hbn
  have hq60 : n / b ≤ n := Nat.div_le_self n b
  refine ⟨hq1, by omega, hb1, hbn, Nat.div_mul_le_self n b, by omega, by omega, ?_, rfl, rfl⟩
  generalize n / b = q at hq1
  rw [cnt_pos (q * b) b (Nat.mul_pos hq1 hb1) hb1]
  obtain ⟨q', rfl⟩ : ∃ q', q = q' + 1 := ⟨q - 1, by omega⟩
  have h1 : (q' + 1) * b - 1 = q' * b + (b - 1) := by rw [Nat.succ_mul]; omega
  have h2 : (q' * b + (b - 1)) / b = q' := by
    rw [Nat.add_comm, Nat.add_mul_div_right _ _ (by omega), Nat.div_eq_of_lt (by omega)]
    omega
  rw [h1, h2]
theorem wrap_both (n : Int) : IntKind.i64.wrap n = wrap64 n := by unfold wrap64; exact IntKind.wrap_i64 n
theorem sumTo_bd {l : List Int} (h : ∀ (i : Nat) (x : Int), l[i]? = some x → 0 ≤ x ∧ x ≤ 1) : ∀ z : Nat, z ≤ l.length → 0 ≤ sumTo l z ∧ sumTo l z ≤ z
  | 0, _ => by simp [sumTo]
  | z + 1, hz => by
    have ih := sumTo_bd h z (by omega)
    have h1 := h z _ (List.getElem?_eq_getElem (show z < l.length by omega))
    rw [sumTo_succ (List.getElem?_eq_getElem (show z < l.length by omega))]
    omega
theorem take_snocI {l : List Int} {k : Nat} {x : Int} (h : l[k]? = some x) : l.take (k + 1) = l.take k ++ [x] := by
  rw [List.take_add_one, h]
  rfl
theorem sumTo_all (l : List Int) : sumTo l l.length = l.sum := by unfold sumTo; rw [List.take_length]
theorem accP_le (l : List Int) (K j : Nat) : (accP l K j).length ≤ l.length := by unfold accP; simp; omega
theorem pieceL_sub {l : List Int} {i k x : Int} (h : x ∈ pieceL l i k) : x ∈ l := by
  unfold pieceL at h
  split at h
  · exact List.mem_of_mem_drop (List.mem_of_mem_take h)
  · cases h
theorem batchL_sub {L : List Int} {n b q st t : Nat} {x : Int} (ht : t < q) (h : x ∈ batchL L n b q (st : Int) (t : Int)) : x ∈ pemL L n 0 := by
  unfold batchL at h
  split at h
  · have e : t / q = 0 := Nat.div_eq_of_lt ht
    rw [show ((t : Int)).toNat = t by omega, e, Nat.zero_mul] at h
    exact List.mem_of_mem_drop (List.mem_of_mem_take h)
  · cases h
end
section
open Go.RowKit
variable (A : Option Addr) (n cap : Nat) (l : List Int) (c : Cfg) (S : Option Addr) (m cS : Nat) (es : List ExS) (AP : Option Addr) (P cP : Nat) (AD : Option Addr) (D cD : Nat) (L : List Int) (x0 x1 : Nat) (w : World)
set_option maxHeartbeats 4000000 in
theorem topEpochs_any (hcap : n ≤ cap) (hln : l.length = n) (hr : Rd w 1 A n (iv l)) (hl : es.length = m) (h : Rd w 2 S m (exV es)) (hD : L.length = D) (hrd : Rd w 1 AD D (uv L)) (hu : InU L) (hx0 : x0 < 256) (hx1 : x1 < 256) :
    Calls Tryz.prog 6 #[inV A n cap c S m cS AP P cP AD D cD, .agg #[.int .u8 x0, .int .u8 x1]] w fun e w' => e = .returned (.bool true) ∧ Below w.heap.size w w' := by
  have HG : Hid (∀ W, (w.alloc (.cells (inC A n cap c S m cS AP P cP AD D cD) 29)).alloc (.cells #[.int .u8 x0, .int .u8 x1] 70) = W → Below w.heap.size w W ∧ Blk W w.heap.size 29 (inC A n cap c S m cS AP P cP AD D cD) ∧ Blk W (w.heap.size + 1) 70 #[.int .u8 x0, .int .u8 x1]) := Lib.hid (by
    rintro W rfl
    exact ⟨((Below.refl _ _).alloc (Nat.le_refl _) _).alloc (by simp) _, (Blk.new _ _ _).alloc _, Blk.new' _ _ (by simp)⟩)
  have HF := Lib.hid (fun W (r1 : Rd W 1 A n (iv l)) (r : Rd W 2 S m (exV es)) => fewTop_any A n cap l c S m cS es AP P cP AD D cD W none 0 0 hcap hln r1 hl r)
  have HWK := Lib.hid (fun W => works_any W)
  have HR := Lib.hid h
  have HQ := Lib.hid hr
  have HRD := Lib.hid hrd
  have HDL := Lib.hid hD
  have HU := Lib.hid hu
  have HX0 := Lib.hid hx0
  have HX1 := Lib.hid hx1
  clear h hl hln hr hcap hrd hD hu hx0 hx1
  go_enter Tryz.func6, Tryz.ntmps6
  go_wp2_with fail
  obtain ⟨w0, hw0⟩ : ∃ w0, (w.alloc (.cells (inC A n cap c S m cS AP P cP AD D cD) 29)).alloc (.cells #[.int .u8 x0, .int .u8 x1] 70) = w0 := ⟨_, rfl⟩
  obtain ⟨hB, hI, hX⟩ := HG.out _ hw0
  rw [hw0]
  clear hw0 HG
  have HB := Lib.hid hB
  have HI := Lib.hid hI
  have HX := Lib.hid hX
  ((with_reducible refine (HF.out _ (HQ.out.below hB) (HR.out.below hB)).mono ?_); rintro e w1 ⟨b, rfl, hbt, hb1⟩)
  have HB1 := Lib.hid (HB.out.trans (hb1.mono HB.out.size))
  have HI1 := Lib.hid (HI.out.kept hb1)
  have HX1' := Lib.hid (HX.out.kept hb1)
  have HBT := Lib.hid hbt
  clear hB hI hX hbt hb1 HB HI HX
  cases b
  · go_wp2_with fail
    ((with_reducible refine (HWK.out w1).mono ?_); rintro e w2 ⟨rfl, hb2⟩)
    have HB2 := Lib.hid (HB1.out.trans (hb2.mono HB1.out.size))
    clear hb2
    go_wp2_with fail
    go_ret
    exact ⟨rfl, HB2.out⟩
  · have hf : FewAll n m P D l c es := HBT.out (by trivial)
    have HFT := Lib.hid hf
    clear hf HBT
    obtain ⟨k1, hk1⟩ : ∃ k1, 1 + x0 % 9 = k1 := ⟨_, rfl⟩
    obtain ⟨k2, hk2⟩ : ∃ k2, 1 + x1 % 9 = k2 := ⟨_, rfl⟩
    have HK1 := Lib.hid hk1
    have HK2 := Lib.hid hk2
    clear hk1 hk2
    have x0c : w1.cell? ⟨w.heap.size + 1, 0, none⟩ = some (.int .u8 x0) := HX1'.out.cell 0
    have x1c : w1.cell? ⟨w.heap.size + 1, 1, none⟩ = some (.int .u8 x1) := HX1'.out.cell 1
    have xl := HX1'.out.lt
    have k := HI1.out
    have c5 : w1.cell? ⟨w.heap.size, 5, none⟩ = some (.int .i64 c.ba) := k.cell 5
    have c7 : w1.cell? ⟨w.heap.size, 7, none⟩ = some (.int .i64 c.st) := k.cell 7
    have c12 : w1.cell? ⟨w.heap.size, 12, none⟩ = some (.slice S m cS) := k.cell 12
    have c14 : w1.cell? ⟨w.heap.size, 14, none⟩ = some (.slice AD D cD) := k.cell 14
    have cl := k.lt
    clear k
    have wr1 : wrap64 (1 + (wrap64 (x0 : Int)).tmod 9) = (k1 : Int) := by
      have h1 := HK1.out
      have h2 := HX0.out
      rw [wrap64_id (x0 : Int) (by omega) (by omega), Int.tmod_eq_emod_of_nonneg (by omega), wrap64_id _ (by omega) (by omega)]
      omega
    have wr2 : wrap64 (1 + (wrap64 (x1 : Int)).tmod 9) = (k2 : Int) := by
      have h1 := HK2.out
      have h2 := HX1.out
      rw [wrap64_id (x1 : Int) (by omega) (by omega), Int.tmod_eq_emod_of_nonneg (by omega), wrap64_id _ (by omega) (by omega)]
      omega
    have W1 := Lib.hid wr1
    have W2 := Lib.hid wr2
    clear wr1 wr2
    go_wp2_with fail
    go_region
    rw [W1.out, W2.out]
    go_wp2_with fail
    go_region
    go_wp2_with fail
    have hok := HFT.out.ok
    simp only [okIn, Bool.and_eq_true, decide_eq_true_eq] at hok
    obtain ⟨o1, o2, -, -, o5⟩ := hok
    obtain ⟨a1, a2, a3, a4, a5, a6, a7, a8, a9, a10⟩ := okCfg_nums o1
    have hf := HFT.out.few
    have hst12 := hf.st o1
    have hm60 := hf.m60
    have hD2 := hf.D2000
    obtain ⟨b, hb⟩ : ∃ b : Nat, c.ba = b := ⟨c.ba.toNat, by omega⟩
    obtain ⟨st, hst⟩ : ∃ st : Nat, c.st = st := ⟨c.st.toNat, by omega⟩
    obtain ⟨q, hq⟩ : ∃ q, m / b = q := ⟨_, rfl⟩
    obtain ⟨E, hE⟩ : ∃ E, cnt st q = E := ⟨_, rfl⟩
    have hS := smpNew_any m b st D cD q E AD L w1.drew.drew (by omega) (by omega) hm60 (by omega) hq hE (by omega) HDL.out (HRD.out.below HB1.out.drew.drew) HU.out
    have hneed : E * (m - 1) ≤ D := by
      have : needN c m = E * (m - 1) := by
        unfold needN
        rw [hb, hst, Int.toNat_natCast, Int.toNat_natCast, hq, hE]
      omega
    have HN := Lib.hid hneed
    have HS := Lib.hid hS
    rw [hb, hst]
    ((with_reducible refine HS.out.mono ?_); rintro e w2 ⟨hb2, (⟨-, bs, rfl, hs2⟩ | ⟨hc, -⟩)⟩)
    rotate_left
    · exfalso
      have := HN.out
      omega
    have HB2 := Lib.hid (HB1.out.drew.drew.trans (hb2.mono HB1.out.drew.drew.size))
    have HI2 := Lib.hid ((show Blk w1.drew.drew _ _ _ from HI1.out).kept hb2)
    have HS2 := Lib.hid hs2
    have HQ' := Lib.hid hq
    have HE' := Lib.hid hE
    have HBB := Lib.hid hb
    have HBM : Hid (b ≤ m) := Lib.hid (by omega)
    have HST60 : Hid (st ≤ 60) := Lib.hid (by omega)
    have HST := Lib.hid hst
    have HM60 := Lib.hid hm60
    clear hb2 hs2 hq hE hb hst hm60 o1 o2 o5 a1 a2 a3 a4 a5 a6 a7 a8 a9 a10 hf hst12 hD2 hneed hS x0c x1c xl c5 c7 c12 c14 cl
    have hmk := fun W => run_make_row' (P := Tryz.prog) 22 3 (.int .i64 0) 8 Tryz.underlying22 slInt.info rfl .i64 .i64 m (by have := HM60.out; omega) (by have := HM60.out; omega) W
    have k := HI2.out
    have c7 : w2.cell? ⟨w.heap.size, 7, none⟩ = some (.int .i64 c.st) := k.cell 7
    have cl := k.lt
    clear k
    go_wp2_with fail
    clear hmk c7 cl
    obtain ⟨w3, hw3⟩ : ∃ w3, w2.alloc (.cells (madeCells #[Value.int .i64 0] m) 3) = w3 := ⟨_, rfl⟩
    obtain ⟨gc, hgc⟩ : ∃ gc, w2.heap.size = gc := ⟨_, rfl⟩
    have hb3 : Below w2.heap.size w2 w3 := by rw [← hw3]; exact (Below.refl _ _).alloc (Nat.le_refl _) _
    have ho3 : w3.ownsRow gc 3 1 (.slice (some ⟨gc, 0, none⟩) m m) m (iv (ctL m [])) := by rw [← hw3, ctL_nil]; exact own_made w2 m gc _ _ hgc (Nat.le_refl _) (by have := HM60.out; omega)
    rw [hw3, hgc]
    rw [hgc] at hb3
    have HWG : Hid (w.heap.size ≤ gc) := Lib.hid (by rw [← hgc]; exact HB2.out.size)
    have HK : Hid (∀ W, Below gc w2 W → Below w.heap.size w W ∧ SmpAt W w1.heap.size bs b st q E (blocksL (q * b) b) (ordsL L m E) ∧ Blk W w.heap.size 29 (inC A n cap c S m cS AP P cP AD D cD)) := Lib.hid (fun W h => ⟨HB2.out.trans (h.mono HWG.out), HS2.out.below (by rw [hgc]; exact h), HI2.out.kept (by rw [hgc]; exact h)⟩)
    have HB3 := Lib.hid hb3
    have HO3 := Lib.hid ho3
    have HGC := Lib.hid hgc
    clear hw3 hgc hb3 ho3 HB2 HI2 HS2
    have k := (HK.out _ HB3.out).2.2
    have c7 : w3.cell? ⟨w.heap.size, 7, none⟩ = some (.int .i64 c.st) := k.cell 7
    have cl := k.lt
    clear k
    rw [HST.out] at c7
    have b1 : 1 ≤ b := by
      have := (okCfg_nums (by have := HFT.out.ok; simp only [okIn, Bool.and_eq_true] at this; exact this.1 : okCfg l c = true))
      have hb := HBB.out
      omega
    have nz : ¬ (b : Int) = 0 := by omega
    have td : ((m : Int)).tdiv (b : Int) = (q : Int) := by rw [← HQ'.out]; exact (Int.tdiv_eq_ediv_of_nonneg (by omega)).trans (Int.natCast_ediv m b).symm
    have B1 := Lib.hid b1
    clear b1
    go_wp2_with fail
    go_region
    obtain ⟨r, hr⟩ : ∃ r, min q st = r := ⟨_, rfl⟩
    have q60 : q ≤ 60 := by rw [← HQ'.out]; exact Nat.le_trans (Nat.div_le_self _ _) HM60.out
    have wq : wrap64 (q : Int) = (q : Int) := wrap64_id _ (by omega) (by omega)
    have hmin : (if (st : Int) < wrap64 (q : Int) then (st : Int) else wrap64 (q : Int)) = (r : Int) := by
      rw [wq, ← hr]
      split <;> omega
    rw [hmin]
    have HR' := Lib.hid hr
    have Q60 := Lib.hid q60
    clear hmin wq q60 hr c7 cl nz td
    go_wp2_with fail
    have HB3' := Lib.hid (HB3.out.drew)
    have HO3' := Lib.hid (own_drewR HO3.out)
    generalize w3.drew = w4 at HB3' HO3' ⊢
    clear HB3 HO3
    have HSP : Hid (SmpP m b st q E) := Lib.hid (by
      have h1 := HQ'.out
      have h2 := HE'.out
      have h3 := smpP_top (n := m) (b := b) (st := st) B1.out HBM.out HM60.out HST60.out
      rw [h1, h2] at h3
      exact h3)
    have HPI : Hid (1 ≤ st → m - 1 ≤ L.length) := Lib.hid (by
      intro h1
      have h2 := HN.out
      have h3 := HE'.out
      have h4 := HSP.out.hq
      have h5 := HDL.out
      have h6 : 1 ≤ E := by
        rw [← h3, ← cnt_up _ _ h4]
        exact (Nat.le_div_iff_mul_le (by omega)).2 (by omega)
      have h7 : 1 * (m - 1) ≤ E * (m - 1) := Nat.mul_le_mul_right _ h6
      omega)
    have HK1B : Hid (k1 ≤ 9) := Lib.hid (by have := HK1.out; omega)
    have HK2B : Hid (k2 ≤ 9) := Lib.hid (by have := HK2.out; omega)
    have HRB : Hid (r ≤ 60) := Lib.hid (by have := HR'.out; have := Q60.out; omega)
    go_loopw [64] (fun v wr => ∃ t : Nat, t ≤ r ∧ v = .int .i64 t ∧ wr.ownsRow gc 3 1 (.slice (some ⟨gc, 0, none⟩) m m) m (iv (ctL m ((pemL L m 0).take (t * b)))) ∧ Below gc w2 wr) (fun v _ => r - (intOf v).toNat)
    case atStart => exact ⟨0, by omega, rfl, by rw [Nat.zero_mul, List.take_zero]; exact HO3'.out, HB3'.out⟩
    case round =>
      obtain ⟨t, ht, rfl, ho, hb⟩ := hrel
      by_cases hlt : t < r
      · obtain ⟨bt, hbt⟩ : ∃ bt, batchL L m b q (st : Int) (t : Int) = bt := ⟨_, rfl⟩
        obtain ⟨pr, hpr⟩ : ∃ pr, (pemL L m 0).take (t * b) = pr := ⟨_, rfl⟩
        rw [hpr] at ho
        have HT := Lib.hid hlt
        have HO := Lib.hid ho
        have HBX := Lib.hid hb
        have HBT := Lib.hid hbt
        have HPR := Lib.hid hpr
        have r2 : (t : Int) < (r : Int) := by omega
        clear ho hb hbt hpr hlt
        go_wp2_with fail
        go_loopw [68] (fun v wx => ∃ i : Nat, i ≤ k1 ∧ v = .int .i64 i ∧ wx.ownsRow gc 3 1 (.slice (some ⟨gc, 0, none⟩) m m) m (iv (ctL m (pr ++ accP bt k1 i))) ∧ Below gc w2 wx) (fun v _ => k1 - (intOf v).toNat)
        case atStart => exact ⟨0, by omega, rfl, by rw [accP_zero, List.append_nil]; exact HO.out, HBX.out⟩
        case round =>
          obtain ⟨i, hi, rfl, ho, hb⟩ := hrel
          by_cases hlt : i < k1
          · obtain ⟨pc, hpc⟩ : ∃ pc, pieceL bt (i : Int) (k1 : Int) = pc := ⟨_, rfl⟩
            have hstp := accP_step (l := bt) hlt
            rw [hpc] at hstp
            obtain ⟨p2, hp2⟩ : ∃ p2, pr ++ accP bt k1 i = p2 := ⟨_, rfl⟩
            rw [hp2] at ho
            have HI2 := Lib.hid hlt
            have HSTP := Lib.hid hstp
            have HP2 := Lib.hid hp2
            have HPC := Lib.hid hpc
            have HO2 := Lib.hid ho
            have HBX2 := Lib.hid hb
            have r3 : (i : Int) < (k1 : Int) := by omega
            clear ho hb hpc hp2 hstp hlt
            go_wp2_with fail
            go_loopw [72] (fun v wy => ∃ j : Nat, j ≤ k2 ∧ v = .int .i64 j ∧ wy.ownsRow gc 3 1 (.slice (some ⟨gc, 0, none⟩) m m) m (iv (ctL m (p2 ++ accP pc k2 j))) ∧ Below gc w2 wy) (fun v _ => k2 - (intOf v).toNat)
            case atStart => exact ⟨0, by omega, rfl, by rw [accP_zero, List.append_nil]; exact HO2.out, HBX2.out⟩
            case round =>
              obtain ⟨j, hj, rfl, ho, hb⟩ := hrel
              by_cases hlt : j < k2
              · have hx0 := HX0.out
                have hx1 := HX1.out
                have hk1 := HK1.out
                have hk2 := HK2.out
                have hC := smpMicro_any w1.heap.size bs b st q E m L wr HSP.out t i k1 j k2 (HK.out _ hb).2.1 (by omega) (by omega) (by omega) (by omega) (by omega) (by omega) (by omega) (by omega)
                have hbt := HBT.out
                have hpc := HPC.out
                rw [hbt, hpc] at hC
                obtain ⟨mc, hmc⟩ : ∃ mc, pieceL pc (j : Int) (k2 : Int) = mc := ⟨_, rfl⟩
                rw [hmc] at hC
                have hst2 := accP_step (l := pc) hlt
                rw [hmc] at hst2
                obtain ⟨p3, hp3⟩ : ∃ p3, p2 ++ accP pc k2 j = p3 := ⟨_, rfl⟩
                rw [hp3] at ho
                have HC := Lib.hid hC
                have HJ := Lib.hid hlt
                have HO3 := Lib.hid ho
                have HBX3 := Lib.hid hb
                have HST2 := Lib.hid hst2
                have HP3 := Lib.hid hp3
                have HMC := Lib.hid hmc
                have r4 : (j : Int) < (k2 : Int) := by omega
                clear ho hb hlt hC hbt hpc hx0 hx1 hk1 hk2 hst2 hp3 hmc
                go_wp2_with fail
                obtain ⟨wm, rfl⟩ : ∃ W : World, W = wr := ⟨_, rfl⟩
                ((with_reducible refine HC.out.mono ?_); rintro e w6 ⟨A6, c6, rfl, ho6, hb6⟩)
                obtain ⟨M, hM⟩ : ∃ M, mc.length = M := ⟨_, rfl⟩
                rw [hM] at ho6
                rw [hM]
                have HM := Lib.hid hM
                have HO6 := Lib.hid ho6
                have HMB : Hid (M ≤ 60) := Lib.hid (by
                  have m60 := HM60.out
                  have l2 : bt.length ≤ m := by rw [← HBT.out]; exact batchL_le L m b q st t HBM.out
                  have l4 : pc.length ≤ bt.length := by rw [← HPC.out]; exact pieceL_le _ _ _
                  have l6 : mc.length ≤ pc.length := by rw [← HMC.out]; exact pieceL_le _ _ _
                  have := HM.out
                  omega)
                have hgs : gc < wm.heap.size := HO3.out.lt gc rfl |>.2
                have HGS := Lib.hid hgs
                have HO7 := Lib.hid (own_below HO3.out hb6)
                have HB7 := Lib.hid (HBX3.out.trans (hb6.mono (Nat.le_of_lt hgs)))
                clear hM ho6 hb6 hgs
                go_wp2_with fail
                go_loopw [83] (fun v wz => ∃ z : Nat, z ≤ M ∧ v = .int .i64 z ∧ wz.ownsRow gc 3 1 (.slice (some ⟨gc, 0, none⟩) m m) m (iv (ctL m (p3 ++ mc.take z))) ∧ wz.ownsRow wm.heap.size 3 1 (.slice A6 M c6) M (iv mc) ∧ Below gc w2 wz) (fun v _ => M - (intOf v).toNat)
                case atStart => exact ⟨0, by omega, rfl, by rw [List.take_zero, List.append_nil]; exact HO7.out, HO6.out, HB7.out⟩
                case round =>
                  obtain ⟨z, hz, rfl, ho, hor, hb⟩ := hrel
                  by_cases hlt : z < M
                  · have hzl : z < mc.length := by rw [HM.out]; exact hlt
                    obtain ⟨x, hx⟩ : ∃ x, mc[z]? = some x := ⟨_, List.getElem?_eq_getElem hzl⟩
                    have htr := HT.out
                    have hrr := HR'.out
                    have hmem : x ∈ pemL L m 0 := by
                      have h1 : x ∈ mc := List.mem_of_getElem? hx
                      rw [← HMC.out] at h1
                      have h2 := pieceL_sub h1
                      rw [← HPC.out] at h2
                      have h3 := pieceL_sub h2
                      rw [← HBT.out] at h3
                      exact batchL_sub (by omega) h3
                    obtain ⟨px0, px1⟩ := pem_in L m 0 (by have := HPI.out (by omega); omega) x hmem
                    obtain ⟨k, rfl⟩ : ∃ k : Nat, x = k := ⟨x.toNat, by omega⟩
                    have hkm : k < m := by omega
                    have hlen : (p3 ++ mc.take z).length ≤ 240 := by
                      have m60 := HM60.out
                      have l1 : pr.length ≤ m := by rw [← HPR.out, List.length_take, pemL_length]; omega
                      have l2 : bt.length ≤ m := by rw [← HBT.out]; exact batchL_le L m b q st t HBM.out
                      have l3 := accP_le bt k1 i
                      have l4 : pc.length ≤ bt.length := by rw [← HPC.out]; exact pieceL_le _ _ _
                      have l5 := accP_le pc k2 j
                      have l6 : mc.length ≤ pc.length := by rw [← HMC.out]; exact pieceL_le _ _ _
                      have l7 : p2.length = pr.length + (accP bt k1 i).length := by rw [← HP2.out, List.length_append]
                      have l8 : p3.length = p2.length + (accP pc k2 j).length := by rw [← HP3.out, List.length_append]
                      rw [List.length_append, List.length_take]
                      omega
                    obtain ⟨ct, hct⟩ : ∃ ct, (p3 ++ mc.take z).count (k : Int) = ct := ⟨_, rfl⟩
                    have hc240 : ct ≤ 240 := by rw [← hct]; exact Nat.le_trans List.count_le_length hlen
                    obtain ⟨g6, rfl⟩ := own_some hor (by omega)
                    have c1 : wr.cell? ⟨g6, z, none⟩ = some (.int .i64 (k : Int)) := by
                      rw [hor.cellAt z (by omega), iv_get _ _ hzl]
                      rw [List.getElem?_eq_getElem hzl] at hx
                      injection hx with hx
                      rw [hx]
                    have hcl : k < (ctL m (p3 ++ mc.take z)).length := by rw [ctL_length]; exact hkm
                    have c2 : wr.cell? ⟨gc, k, none⟩ = some (.int .i64 (ct : Int)) := by
                      have h1 := ctL_get m (p3 ++ mc.take z) k hkm
                      rw [hct] at h1
                      rw [ho.cellAt k (by omega), iv_get _ _ hcl]
                      rw [List.getElem?_eq_getElem hcl] at h1
                      injection h1 with h1
                      rw [h1]
                    have f2 := ho.frozenAt k
                    have l2 := (ho.lt gc rfl).2
                    have l6 := (hor.lt g6 rfl).2
                    have hwz : wrap64 ((ct : Int) + 1) = (ct : Int) + 1 := wrap64_id _ (by omega) (by omega)
                    have hst := (ho.stored k (.int .i64 ((ct : Int) + 1))).1
                    have hor2 : (wr.setCell ⟨gc, k, none⟩ (.int .i64 ((ct : Int) + 1))).ownsRow wm.heap.size 3 1 (.slice (some ⟨g6, 0, none⟩) M c6) M (iv mc) := ownsRow_setCell_below hor HGS.out _
                    have hb2 : Below gc w2 (wr.setCell ⟨gc, k, none⟩ (.int .i64 ((ct : Int) + 1))) := hb.setCell (p := ⟨gc, k, none⟩) (Nat.le_refl _) _
                    have hsn := ctL_snoc m (p3 ++ mc.take z) k hkm
                    rw [hct] at hsn
                    rw [iv_set, hsn, List.append_assoc, ← take_snocI hx] at hst
                    have HSTO := Lib.hid hst
                    have HOR := Lib.hid hor2
                    have HBZ := Lib.hid hb2
                    have d1 : decide ((k : Int) < 0) = false := decide_eq_false (by omega)
                    have d2 : decide ((m : Int) ≤ (k : Int)) = false := decide_eq_false (by omega)
                    have r5 : (z : Int) < (M : Int) := by omega
                    have r6 : (k : Int) < (m : Int) := by omega
                    have HZ := Lib.hid hlt
                    clear hst hor2 hb2 hsn hcl hct hlen hmem hx hzl ho hor hb px0 px1 htr hrr hlt hkm hc240
                    have hbd0 := HMB.out
                    go_wp2_with fail
                    go_roundw
                    case rel =>
                      have hbd := HMB.out
                      exact ⟨z + 1, HZ.out, by go_num, HSTO.out, HOR.out, HBZ.out⟩
                    case measure =>
                      have hbd := HMB.out
                      simp [intOf]; have := HZ.out; omega
                  · obtain rfl : z = M := by omega
                    have hfin : p3 ++ mc.take z = p2 ++ accP pc k2 (j + 1) := by rw [List.take_of_length_le (by rw [HM.out]; exact Nat.le_refl _), HST2.out, ← List.append_assoc, HP3.out]
                    rw [hfin] at ho
                    have HOZ := Lib.hid ho
                    have HBZ := Lib.hid hb
                    clear ho hor hb hfin hlt
                    have hbd0 := HK2B.out
                    go_wp2_with fail
                    go_roundw
                    case rel =>
                      have hbd := HK2B.out
                      exact ⟨j + 1, HJ.out, by go_num, HOZ.out, HBZ.out⟩
                    case measure =>
                      have hbd := HK2B.out
                      simp [intOf]; have := HJ.out; omega
              · obtain rfl : j = k2 := by omega
                have hfin : p2 ++ accP pc j j = pr ++ accP bt k1 (i + 1) := by rw [accP_end (by have := HK2.out; omega), HSTP.out, ← List.append_assoc, HP2.out]
                rw [hfin] at ho
                have HOZ := Lib.hid ho
                have HBZ := Lib.hid hb
                clear ho hb hfin hlt
                have hbd0 := HK1B.out
                go_wp2_with fail
                go_roundw
                case rel =>
                  have hbd := HK1B.out
                  exact ⟨i + 1, HI2.out, by go_num, HOZ.out, HBZ.out⟩
                case measure =>
                  have hbd := HK1B.out
                  simp [intOf]; have := HI2.out; omega
          · obtain rfl : i = k1 := by omega
            have hfin : pr ++ accP bt i i = (pemL L m 0).take ((t + 1) * b) := by
              have h1 := HT.out
              have h2 := HR'.out
              rw [accP_end (by have := HK1.out; omega), batch_take (q := q) (st := st) (by omega) (by omega), HBT.out, HPR.out]
            rw [hfin] at ho
            have HOZ := Lib.hid ho
            have HBZ := Lib.hid hb
            clear ho hb hfin hlt
            have hbd0 := HRB.out
            go_wp2_with fail
            go_roundw
            case rel =>
              have hbd := HRB.out
              exact ⟨t + 1, HT.out, by go_num, HOZ.out, HBZ.out⟩
            case measure =>
              have hbd := HRB.out
              simp [intOf]; have := HT.out; omega
      · obtain rfl : t = r := by omega
        have hst1 : 1 ≤ t → m - 1 ≤ L.length := fun h => HPI.out (by have := HR'.out; omega)
        obtain ⟨cs, hcs⟩ : ∃ cs, ctL m ((pemL L m 0).take (t * b)) = cs := ⟨_, rfl⟩
        have hcl : cs.length = m := by rw [← hcs, ctL_length]
        have htb : t * b ≤ m := by
          have h1 := HR'.out
          have h2 := HQ'.out
          have h3 : t * b ≤ q * b := Nat.mul_le_mul_right _ (by omega)
          have h4 : q * b ≤ m := by rw [← h2]; exact Nat.div_mul_le_self _ _
          omega
        have hz0 : ∀ x ∈ (pemL L m 0).take (t * b), 0 ≤ x ∧ x < (m : Int) := by
          intro x hx
          by_cases h : 1 ≤ t
          · exact pem_in L m 0 (by have := hst1 h; omega) x (List.mem_of_mem_take hx)
          · obtain rfl : t = 0 := by omega
            rw [Nat.zero_mul, List.take_zero] at hx
            cases hx
        have hcb : ∀ (i : Nat) (x : Int), cs[i]? = some x → 0 ≤ x ∧ x ≤ 1 := by
          intro i x hx
          have hi : i < m := by rw [← hcl]; exact (List.getElem?_eq_some_iff.1 hx).1
          rw [← hcs, ctL_get _ _ _ hi] at hx
          injection hx with hx
          have h1 : ((pemL L m 0).take (t * b)).count (i : Int) ≤ 1 := by
            by_cases h : 1 ≤ t
            · exact pem_once L m 0 _ _ (by have := hst1 h; omega)
            · obtain rfl : t = 0 := by omega
              rw [Nat.zero_mul, List.take_zero, List.count_nil]
              omega
          omega
        have hsum : sumTo cs m = ((t * b : Nat) : Int) := by
          have h1 := ctL_sum m _ hz0
          rw [hcs, List.length_take, pemL_length, Nat.min_eq_left htb] at h1
          rw [← h1, ← sumTo_all, hcl]
        rw [hcs] at ho
        obtain ⟨wq, rfl⟩ : ∃ W : World, W = wr := ⟨_, rfl⟩
        have HOF := Lib.hid ho
        have HBF := Lib.hid hb
        have HCL := Lib.hid hcl
        have HCB := Lib.hid hcb
        have HSU := Lib.hid hsum
        have HTB := Lib.hid htb
        have lgc := (ho.lt gc rfl).2
        clear ho hb hcl hcb hsum htb hz0 hst1 hcs hlt
        go_wp2_with fail
        go_loopw [18, 106] (fun o v wv => ∃ z : Nat, z ≤ m ∧ v = .int .i64 z ∧ o = .int .i64 (sumTo cs z) ∧ wv = wq) (fun _ v _ => m - (intOf v).toNat)
        case atStart => exact ⟨0, by omega, rfl, by simp [sumTo], rfl⟩
        case round =>
          obtain ⟨z, hz, rfl, rfl, rfl⟩ := hrel
          by_cases hlt : z < m
          · have hzl : z < cs.length := by rw [HCL.out]; exact hlt
            obtain ⟨x, hx⟩ : ∃ x, cs[z]? = some x := ⟨_, List.getElem?_eq_getElem hzl⟩
            have hx1 := HCB.out z x hx
            have hsb := sumTo_bd HCB.out z (by omega)
            have m60 := HM60.out
            have c1 : wr.cell? ⟨gc, z, none⟩ = some (.int .i64 x) := by
              rw [HOF.out.cellAt z (by omega), iv_get _ _ hzl]
              rw [List.getElem?_eq_getElem hzl] at hx
              injection hx with hx
              rw [hx]
            have hw : wrap64 (sumTo cs z + x) = sumTo cs (z + 1) := by
              rw [sumTo_succ hx]
              exact wrap64_id _ (by omega) (by omega)
            have HW := Lib.hid hw
            have HZ := Lib.hid hlt
            have d1 : decide (1 < x) = false := decide_eq_false (by omega)
            have r5 : (z : Int) < (m : Int) := by omega
            clear hw hx hx1 hsb m60 hzl hlt
            have hbd0 := HM60.out
            go_wp2_with fail
            rw [HW.out]
            go_roundw
            case rel =>
              have hbd := HM60.out
              exact ⟨z + 1, HZ.out, by go_num, (by first | rfl | trivial), (by first | rfl | trivial)⟩
            case measure =>
              have hbd := HM60.out
              simp [intOf]; have := HZ.out; omega
          · obtain rfl : z = m := by omega
            go_wp2_with fail
            rw [HSU.out]
            obtain ⟨tb, htb⟩ : ∃ tb, t * b = tb := ⟨_, rfl⟩
            have hsum : ((t * b : Nat) : Int) = (tb : Int) := by rw [htb]
            rw [hsum]
            have hb60 := HTB.out
            rw [htb] at hb60
            have hmul : wrap64 ((t : Int) * (b : Int)) = (tb : Int) := by
              rw [← Int.natCast_mul, htb]
              exact wrap64_id _ (by omega) (by have := HM60.out; omega)
            have HMUL := Lib.hid hmul
            clear hsum hb60 htb
            have HWK2 := Lib.hid (fun W => works_any W)
            have HBW := Lib.hid (HK.out _ HBF.out).1
            have HIW := Lib.hid (HK.out _ HBF.out).2.2
            obtain ⟨len, hlen⟩ : ∃ len : Nat, (batchL L z b q (st : Int) 0).length = len := ⟨_, rfl⟩
            have hlen2 : (if decide (0 < c.st) = true then (b : Int) else 0) = (len : Int) := by
              by_cases h : 0 < st
              · have e : (batchL L z b q (st : Int) 0).length = b := batchL_length HSP.out L 0 h
                rw [if_pos (by rw [HST.out]; simpa using h), ← hlen, e]
              · rw [if_neg (by rw [HST.out]; simpa using h), ← hlen, batchL_no L 0 (by omega)]
                rfl
            have HS14 := Lib.hid (fun W (r : Rd W 1 AD D (uv L)) => samp14_any A n cap c S z cS AP P cP AD D cD b st q E L W HBB.out HST.out B1.out HBM.out HM60.out HST60.out HQ'.out HE'.out (by have := HFT.out.few.D2000; omega) HDL.out r HU.out HN.out)
            have HRB12 := Lib.hid (fun W Ao co (r : RSmp W 0 z Ao E co (ordsL L z E)) => refBatch_any 0 b st q E z co Ao L W HSP.out 0 r)
            have HLEN := Lib.hid hlen
            have HLEN2 := Lib.hid hlen2
            clear hlen hlen2
            have hbd1 : b ≤ 60 := Nat.le_trans HBM.out HM60.out
            have hwf : (Lit.int .i64 (b : Int)).wf = true := by
              simp only [Lit.wf, Bool.and_eq_true, decide_eq_true_eq]
              exact ⟨by show (-9223372036854775808 : Int) ≤ _; omega, by show _ ≤ (9223372036854775807 : Int); omega⟩
            have HWF := Lib.hid hwf
            clear hwf hbd1
            refine wp_region_mei (Kept wr) (EpInv wr z b st E len L) [0, 1] [2, 3, 4, 5, 6, 7, 8, 9, 14, 18, 19, 20, 21] [10, 11, 12, 13, 15, 16, 17, 22, 23, 24] [25] (by kernel_rfl) (meiB_stat (by kernel_rfl)) (Kept.start wr) (fun L vs w h => h.k) (fun L vs w hS hL => EpInv.start hS hL) ?_
            simp only [List.filterMap_cons, List.filterMap_nil, List.getElem?_cons_succ, List.getElem?_cons_zero]
            change RestW _ _ _ _ _ (_ :: _ :: []) _ _
            unfold RestW
            go_wp2_with fail
            ((with_reducible refine (HWK2.out _).mono ?_); rintro e w8 ⟨rfl, hb8⟩)
            have HKK := Lib.hid ((Kept.start wr).call hb8)
            clear hb8
            go_wp2_with fail
            refine ⟨HKK.out, ?_⟩
            unfold RestW
            go_wp2_with fail
            refine ⟨HKK.out, ?_⟩
            unfold RestW
            refine ⟨HKK.out, ?_⟩
            have k := HIW.out
            have c0 : wr.cell? ⟨w.heap.size, 0, none⟩ = some (.slice A n cap) := k.cell 0
            have c1 : wr.cell? ⟨w.heap.size, 1, none⟩ = some (.int .i64 c.sh) := k.cell 1
            have c2 : wr.cell? ⟨w.heap.size, 2, none⟩ = some (.int .i64 c.ra) := k.cell 2
            have c3 : wr.cell? ⟨w.heap.size, 3, none⟩ = some (.int .i64 c.mo) := k.cell 3
            have c4 : wr.cell? ⟨w.heap.size, 4, none⟩ = some (.int .i64 c.wk) := k.cell 4
            have c5 : wr.cell? ⟨w.heap.size, 5, none⟩ = some (.int .i64 c.ba) := k.cell 5
            have c6 : wr.cell? ⟨w.heap.size, 6, none⟩ = some (.int .i64 c.mi) := k.cell 6
            have c7 : wr.cell? ⟨w.heap.size, 7, none⟩ = some (.int .i64 c.st) := k.cell 7
            have c8 : wr.cell? ⟨w.heap.size, 8, none⟩ = some (.int .i64 c.bu) := k.cell 8
            have c9 : wr.cell? ⟨w.heap.size, 9, none⟩ = some (.int .i64 c.ch) := k.cell 9
            have c10 : wr.cell? ⟨w.heap.size, 10, none⟩ = some (.int .i64 c.wi) := k.cell 10
            have c11 : wr.cell? ⟨w.heap.size, 11, none⟩ = some (.int .i64 c.ca) := k.cell 11
            have c12 : wr.cell? ⟨w.heap.size, 12, none⟩ = some (.slice S z cS) := k.cell 12
            have c13 : wr.cell? ⟨w.heap.size, 13, none⟩ = some (.slice AP P cP) := k.cell 13
            have c14 : wr.cell? ⟨w.heap.size, 14, none⟩ = some (.slice AD D cD) := k.cell 14
            have cl := k.lt
            clear k
            have hmul2 : IntKind.i64.wrap ((t : Int) * (b : Int)) = (tb : Int) := by
              rw [← HMUL.out]
              exact wrap_both _
            refine early_step (.int .i64 tb) rfl (fun W hW => ?_) ?_
            · obtain ⟨hc, -, -⟩ := hW
              go_simp
            go_simp
            refine early_step (.int .i64 t) rfl (fun W hW => ?_) ?_
            · obtain ⟨hc, -, -⟩ := hW
              go_simp
            go_simp
            refine early_step (.int .i64 b) rfl (fun W hW => ?_) ?_
            · obtain ⟨hc, -, -⟩ := hW
              go_simp
            go_simp
            refine early_step (.int .i64 tb) rfl (fun W hW => ?_) ?_
            · obtain ⟨hc, -, -⟩ := hW
              go_simp
            go_simp
            refine early_step (.bool true) rfl (fun W hW => ?_) ?_
            · obtain ⟨hc, -, -⟩ := hW
              go_simp
            go_simp
            refine early_step (.bool true) rfl (fun W hW => ?_) ?_
            · obtain ⟨hc, -, -⟩ := hW
              go_simp
            go_simp
            refine early_step (.bool true) rfl (fun W hW => ?_) ?_
            · obtain ⟨hc, -, -⟩ := hW
              go_simp
            go_simp
            refine early_step (inV A n cap c S z cS AP P cP AD D cD) rfl (fun W hW => ?_) ?_
            · obtain ⟨hc, -, -⟩ := hW
              go_simp
            go_simp
            refine early_step (.int .i64 b) rfl (fun W hW => ?_) ?_
            · obtain ⟨hc, -, -⟩ := hW
              go_simp
            go_simp
            refine early_step (.pointer (some ⟨w.heap.size, 0, none⟩)) rfl (fun W hW => ?_) ?_
            · obtain ⟨hc, -, -⟩ := hW
              go_simp
            go_simp
            refine early_step (.pointer (some ⟨w.heap.size, 7, none⟩)) rfl (fun W hW => ?_) ?_
            · obtain ⟨hc, -, -⟩ := hW
              go_simp
            go_simp
            refine early_step (.int .i64 c.st) rfl (fun W hW => ?_) ?_
            · obtain ⟨hc, -, -⟩ := hW
              go_simp
            go_simp
            refine early_step (.bool (decide (0 < c.st))) rfl (fun W hW => ?_) ?_
            · obtain ⟨hc, -, -⟩ := hW
              go_simp
            go_simp
            clear c0 c1 c2 c3 c4 c5 c6 c7 c8 c9 c10 c11 c12 c13 c14 cl hmul2
            refine InvAt.mk ?_ ?_
            · intro j8 hj8 o ho8 L8 vs8 W8 hI8 hLj hw8
              simp only [List.mem_cons, List.not_mem_nil, or_false] at hj8
              have HI8 := Lib.hid hI8
              have HW8 := Lib.hid hw8
              have HL8 := Lib.hid hLj
              have HBE := Lib.hid (HBW.out.trans (hI8.k.2.2.mono HBW.out.size))
              clear hI8 hw8 hLj
              rcases hj8 with rfl | rfl | rfl | rfl | rfl | rfl | rfl | rfl | rfl | rfl
              · -- the reference's sampler
                cases ho8
                unfold InvW
                simp only [puts, dstN, List.getElem?_toArray, List.getElem?_cons_succ, List.getElem?_cons_zero, Option.bind_some]
                change wpList _ _ _ (_ :: []) _ _
                go_wp2_with fail
                ((with_reducible refine (HS14.out _ (HRD.out.below HBE.out)).mono ?_); rintro e w9 ⟨Ao, co, rfl, hrs9, hb9⟩)
                have HRS9 := Lib.hid hrs9
                have HB9 := Lib.hid hb9
                clear hrs9 hb9
                go_wp2_with fail
                exact HI8.out.mk10 HB9.out (HRS9.out.lower (Nat.zero_le _))
              · -- its batch
                obtain ⟨Ao, co, v10, r10⟩ := HI8.out.s10 (HW8.out 10 (by kernel_rfl))
                have HR10 := Lib.hid r10
                clear r10
                cases ho8
                unfold InvW
                simp only [puts, dstN, List.getElem?_toArray, List.getElem?_cons_succ, List.getElem?_cons_zero, Option.bind_some]
                change wpList _ _ _ (_ :: []) _ _
                rw [v10]
                go_wp2_with fail
                ((with_reducible refine (HRB12.out _ Ao co HR10.out).mono ?_); rintro e w9 ⟨A9, c9, rfl, -, -, hb9⟩)
                rw [HLEN.out]
                have HB9 := Lib.hid hb9
                clear hb9
                go_wp2_with fail
                exact HI8.out.mk11 HB9.out A9 c9
              · -- its length
                obtain ⟨A9, c9, v11⟩ := HI8.out.s11 (HW8.out 11 (by kernel_rfl))
                cases ho8
                unfold InvW
                simp only [puts, dstN, List.getElem?_toArray, List.getElem?_cons_succ, List.getElem?_cons_zero, Option.bind_some]
                change wpList _ _ _ (_ :: []) _ _
                rw [v11]
                go_wp2_with fail
                exact HI8.out.mk12
              · -- the map
                cases ho8
                unfold InvW
                simp only [puts, dstN, List.getElem?_toArray, List.getElem?_cons_succ, List.getElem?_cons_zero, Option.bind_some]
                change wpList _ _ _ (_ :: []) _ _
                have hmm := @run_makeMap Tryz.prog
                go_wp2_with fail
                exact HI8.out.mk13 HL8.out
              · -- an entry
                obtain ⟨g9, v13, hg9, hm9⟩ := HI8.out.s13 (HW8.out 13 (by kernel_rfl))
                rw [HL8.out] at hm9
                obtain ⟨w9, hrun, hm9', hgr⟩ := hm9.putT HWF.out
                have HM9 := Lib.hid hm9'
                have HGR := Lib.hid hgr
                clear hm9 hm9' hgr
                cases ho8
                unfold InvW
                simp only [puts, dstN, List.getElem?_toArray, List.getElem?_cons_succ, List.getElem?_cons_zero, Option.bind_some]
                change wpList _ _ _ (_ :: []) _ _
                rw [v13]
                go_wp2_with fail
                exact ⟨undef, HI8.out.mk15 (HW8.out 13 (by kernel_rfl)) v13 HGR.out HM9.out⟩
              · -- the other
                obtain ⟨g9, v13, hg9, hm9⟩ := HI8.out.s13 (HW8.out 13 (by kernel_rfl))
                rw [HL8.out] at hm9
                obtain ⟨w9, hrun, hm9', hgr⟩ := hm9.putF
                have HM9 := Lib.hid hm9'
                have HGR := Lib.hid hgr
                clear hm9 hm9' hgr
                cases ho8
                unfold InvW
                simp only [puts, dstN, List.getElem?_toArray, List.getElem?_cons_succ, List.getElem?_cons_zero, Option.bind_some]
                change wpList _ _ _ (_ :: []) _ _
                rw [v13]
                go_wp2_with fail
                exact ⟨undef, HI8.out.mk16 (HW8.out 13 (by kernel_rfl)) v13 HGR.out HM9.out⟩
              · obtain ⟨g9, v13, -, -⟩ := HI8.out.s13 (HW8.out 13 (by kernel_rfl))
                cases ho8
                unfold InvW
                simp only [puts, dstN, List.getElem?_toArray, List.getElem?_cons_succ, List.getElem?_cons_zero, Option.bind_some]
                change wpList _ _ _ (_ :: []) _ _
                rw [v13]
                go_wp2_with fail
                exact HI8.out.mk17 (HW8.out 13 (by kernel_rfl)) (HW8.out 15 (by kernel_rfl)) (HW8.out 16 (by kernel_rfl)) v13
              · obtain ⟨v17, l13, l15, l16⟩ := HI8.out.s17 (HW8.out 17 (by kernel_rfl))
                obtain ⟨g9, v13, -, hm9⟩ := HI8.out.s13 l13
                rw [l15, l16] at hm9
                have hlk := hm9.look (decide (0 < c.st))
                rw [HLEN2.out] at hlk
                rw [v13] at v17
                clear hm9
                cases ho8
                unfold InvW
                simp only [puts, dstN, List.getElem?_toArray, List.getElem?_cons_succ, List.getElem?_cons_zero, Option.bind_some]
                change wpList _ _ _ (_ :: []) _ _
                rw [v17]
                go_wp2_with fail
                exact HI8.out.mk22
              · have v12 := HI8.out.s12 (HW8.out 12 (by kernel_rfl))
                have v22 := HI8.out.s22 (HW8.out 22 (by kernel_rfl))
                cases ho8
                unfold InvW
                simp only [puts, dstN, List.getElem?_toArray, List.getElem?_cons_succ, List.getElem?_cons_zero, Option.bind_some]
                change wpList _ _ _ (_ :: []) _ _
                rw [v12, v22]
                go_wp2_with fail
                exact HI8.out.mk23
              · have v23 := HI8.out.s23 (HW8.out 23 (by kernel_rfl))
                cases ho8
                unfold InvW
                simp only [puts, dstN, List.getElem?_toArray, List.getElem?_cons_succ, List.getElem?_cons_zero, Option.bind_some]
                change wpList _ _ _ (_ :: []) _ _
                rw [v23]
                go_wp2_with fail
                exact HI8.out.mk24
            · intro L8 vs8 W8 hI8 hL8
              have v24 := hI8.s24 (hL8 24 (by simp))
              have HBE := Lib.hid (HBW.out.trans (hI8.k.2.2.mono HBW.out.size))
              clear hI8 hL8
              simp only [puts, dstN, List.filterMap_cons, List.filterMap_nil, List.getElem?_toArray, List.getElem?_cons_succ, List.getElem?_cons_zero, Option.bind_some]
              rw [v24]
              change wpList _ _ _ (_ :: []) _ _
              go_wp2_with fail
              refine NoPanic.normal ?_
              go_wp2_with fail
              go_ret
              exact ⟨rfl, HBE.out⟩
end
end Go.Proofs.YtkmaeipoaoikpaaGreat
