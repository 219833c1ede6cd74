/-
  DrawMany: the reference's Many, and the walk.
-/
import Derived.Test.YtncjfijpaheobaaDrawNexts
import Derived.Deep.RegionWith
import Derived.Deep.DeepCutAuto
namespace Go.Proofs.Ytncjfijpaheobaa
set_option linter.unusedVariables false
set_option linter.unusedSimpArgs false
open Go.RowKit

/-- Whether Many has what it wants. -/
def canMany (n k m : Nat) (bs : List Int) : Bool := decide (k + m ≤ n) && !anyLow bs
theorem can_no {n k m j : Nat} {bs : List Int} {y : Int} (hl : bs.length = m) (hj : j < m) (hy : bs[j]? = some y) (h : y < 1 ∨ n ≤ k + j) : canMany n k m bs = false := by
  unfold canMany
  rcases h with h | h
  · rw [low_here hy h]; simp
  · rw [decide_eq_false (by omega)]; rfl
theorem can_yes {n k m : Nat} {bs : List Int} (hl : bs.length = m) (hk : k ≤ n) (h : ∀ j y, j < m → bs[j]? = some y → 1 ≤ y ∧ k + j < n) : canMany n k m bs = true := by
  unfold canMany
  rw [low_none hl (fun j x hj hx => (h j x hj hx).1), decide_eq_true]
  · rfl
  · rcases Nat.eq_zero_or_pos m with h0 | h0
    · omega
    · have := (h (m - 1) bs[m - 1] (by omega) (List.getElem?_eq_getElem (by omega))).2
      omega

/-- What the reference's Many hands back. -/
def RManyRet (w : World) (A : Option Addr) (n cap k m : Nat) (L bs : List Int) (en : Ending) (w' : World) : Prop :=
  Below w.heap.size w w' ∧ ((canMany n k m bs = false ∧ en = .returned (.tuple #[.agg #[.slice A n cap, .int .i64 k], .slice none 0 0, .bool false])) ∨
    (canMany n k m bs = true ∧ ∃ A' c', en = .returned (.tuple #[.agg #[.slice A n cap, .int .i64 ((k + m : Nat) : Int)], .slice A' m c', .bool true]) ∧ w'.ownsRow w.heap.size 3 1 (.slice A' m c') m (iv (manyL L k bs))))

set_option maxHeartbeats 1000000 in
theorem refMany_any (A B : Option Addr) (n cap k m d : Nat) (L bs : List Int) (w : World) (hL : L.length = n) (hr : Rd w 1 A n (uv L)) (hu : InU L) (hk : k ≤ n) (hn : n ≤ 10000000) (hl : bs.length = m) (hrb : Rd w 1 B m (iv bs)) (hm : m ≤ 10000000) (hbd : ∀ x ∈ bs, x ≤ 9223372036854775807) :
    Calls Try.prog 23 #[.agg #[.slice A n cap, .int .i64 k], .slice B m d] w (RManyRet w A n cap k m L bs) := by
  have HL := Lib.hid hL
  have HR := Lib.hid hr
  have HU := Lib.hid hu
  have HLB := Lib.hid hl
  have HRB := Lib.hid hrb
  have HD := Lib.hid hbd
  clear hL hr hu hl hrb hbd
  go_enter Try.func23, Try.ntmps23
  go_wp2_with fail
  go_loopw [8, 9] (fun v c wr => ∃ j p : Nat, j ≤ m ∧ Hid (p = k + j) ∧ c = .int .i64 j ∧ (∃ A' c', v = .slice A' j c') ∧ wr.ownsRow w.heap.size 3 1 v j (iv ((manyL L k bs).take j)) ∧ Below w.heap.size w wr ∧
      Blk wr w.heap.size 28 #[.slice A n cap, .int .i64 k] ∧ Blk wr (w.heap.size + 1) 28 #[.slice none 0 0, .int .i64 0] ∧ Blk wr (w.heap.size + 1 + 1) 28 #[.slice A n cap, .int .i64 p] ∧
      Hid (∀ i y, i < j → bs[i]? = some y → 1 ≤ y ∧ k + i < n)) (fun _ c _ => m - (intOf c).toNat)
  case atStart => exact ⟨0, k, by omega, Lib.hid rfl, rfl, ⟨none, 0, rfl⟩, by simpa [iv] using World.ownsRow_nil _ _ _ _, (((Below.refl _ _).alloc (Nat.le_refl _) _).alloc (by simp) _).alloc (by simp <;> omega) _, ((Blk.new w _ _).alloc _).alloc _, (Blk.new' _ _ (by simp)).alloc _, Blk.new' _ _ (by simp), Lib.hid (fun i y h => by omega)⟩
  case round =>
    obtain ⟨j, p, hj, hp, rfl, ⟨A', c', rfl⟩, hown, hb, hb0, hb1, hb2, he⟩ := hrel
    by_cases hlt : j < m
    · obtain ⟨b, o, y, rfl, hbl, hy, cy⟩ := iv_at HLB.out (HRB.out.below hb) hlt
      have i1 : (0 : Int) ≤ (j : Int) := by omega
      have i2 : (j : Int) < (m : Int) := by omega
      have c0 : wr.cell? ⟨w.heap.size + 1 + 1, 0, none⟩ = some (.slice A n cap) := hb2.cell 0
      have c1 : wr.cell? ⟨w.heap.size + 1 + 1, 1, none⟩ = some (.int .i64 p) := hb2.cell 1
      have HRW := Lib.hid (HR.out.below hb)
      have HRB2 := Lib.hid (HRB.out.below hb)
      have hwr := hb2.lt
      by_cases hno : y < 1 ∨ n ≤ p
      · have HC := Lib.hid (fun W => refNext_none A n cap p y W hno (by omega))
        have HN := Lib.hid (can_no (n := n) (k := k) HLB.out hlt hy (by have := hp.out; omega))
        have HB := Lib.hid hb
        have HB0 := Lib.hid hb0
        have HB1 := Lib.hid hb1
        clear hb hb0 hb1 hb2 hown hy hno
        go_upto_region 6 with (fail)
        go_cut [10, 11, 12] (fun s10 s11 s12 wc => ∃ u : Nat, s10 = .pointer (some ⟨u, 0, none⟩) ∧ s11 = .int .i64 0 ∧ s12 = .bool false ∧ wr.heap.size ≤ u ∧ Kept wr wc ∧ Blk wc u 28 #[.slice A n cap, .int .i64 p])
        case first =>
          go_region_with (first | (go_at_call 18; (with_reducible refine (HC.out wr.drew).mono ?_); rintro e w2 ⟨rfl, hbb⟩; have kk := (Kept.start wr).call hbb; clear hbb) | (go_at_call 18; (with_reducible refine (HC.out (wr.alloc (.cells #[.slice none 0 0, .int .i64 0] 28)).drew).mono ?_); rintro e w2 ⟨rfl, hbb⟩; have kb := (Blk.new wr 28 #[.slice none 0 0, .int .i64 0]).drew.kept hbb; have d0 : w2.cell? ⟨wr.heap.size, 0, none⟩ = some (.slice none 0 0) := kb.cell 0; have d1 : w2.cell? ⟨wr.heap.size, 1, none⟩ = some (.int .i64 0) := kb.cell 1; have f0 := kb.frozen 0; have f1 := kb.frozen 1; have kk := ((Kept.of (Below.refl _ wr)).alloc (.cells #[.slice none 0 0, .int .i64 0] 28)).drew.call hbb; clear hbb))
          all_goals go_wp2_with fail
          all_goals go_meet
          all_goals first
            | exact ⟨_, rfl, rfl, rfl, kk.2.1, kk.alloc _, Blk.new _ _ _⟩
            | exact ⟨_, rfl, rfl, rfl, Nat.le_refl _, Kept.of (below_gr kk.2.2 kk.2.1 (store2' kb _ _).1 (Nat.le_refl _)), (store2' kb _ _).2⟩
        case rest =>
          obtain ⟨u, rfl, rfl, rfl, hu, kk, hbu⟩ := hcut
          have z0 := HB0.out.kept kk.2.2
          have z1 := HB1.out.kept kk.2.2
          have c4 : wc.cell? ⟨w.heap.size, 0, none⟩ = some (.slice A n cap) := z0.cell 0
          have c5 : wc.cell? ⟨w.heap.size, 1, none⟩ = some (.int .i64 k) := z0.cell 1
          have c6 : wc.cell? ⟨w.heap.size + 1, 0, none⟩ = some (.slice none 0 0) := z1.cell 0
          have c7 : wc.cell? ⟨w.heap.size + 1, 1, none⟩ = some (.int .i64 0) := z1.cell 1
          have f6 := z1.frozen 0
          have f7 := z1.frozen 1
          have HK := Lib.hid kk
          clear kk z0 hbu c0 c1
          go_wp2
          refine bodyPost_ret (v := .tuple #[.agg #[.slice A n cap, .int .i64 k], .slice none 0 0, .bool false]) (by simp [results, Try.results23, go_sem, c6, c7]) rfl ⟨?_, .inl ⟨HN.out, rfl⟩⟩
          exact below_gr ((Kept.of HB.out).call HK.out.2.2).2.2 (by have := ((Kept.of HB.out).call HK.out.2.2).2.1; omega) (store2' z1 _ _).1 (by omega)
      · have hkj : p < L.length := by rw [HL.out]; omega
        have hx := List.getElem?_eq_getElem hkj
        generalize L[p] = x at hx
        obtain ⟨p1, hp1⟩ : ∃ p1, p + 1 = p1 := ⟨_, rfl⟩
        have hC := (fun W hW => refNext_some A n cap p L y x W HL.out hW HU.out (by omega) (HD.out y (List.mem_of_getElem? hy)) (by omega) hx)
        simp only [hp1] at hC
        have HC := Lib.hid hC
        have HP1 := Lib.hid hp1
        have HT := Lib.hid (iv_take_snoc _ j _ (manyL_get L k bs j x y (by rw [← hp.out]; exact hx) hy))
        have HY := Lib.hid hy
        have HB := Lib.hid hb
        have HB0 := Lib.hid hb0
        have HB1 := Lib.hid hb1
        have HB2 := Lib.hid hb2
        have HO := Lib.hid hown
        clear hx hy hb hb0 hb1 hb2 hown hC hp1
        go_upto_region 6 with (fail)
        go_cut [10, 11, 12] (fun s10 s11 s12 wc => ∃ u : Nat, s10 = .pointer (some ⟨u, 0, none⟩) ∧ s11 = .int .i64 (x % y) ∧ s12 = .bool true ∧ wr.heap.size ≤ u ∧ Kept wr wc ∧ Blk wc u 28 #[.slice A n cap, .int .i64 p1])
        case first =>
          go_region_with (first | (go_at_call 18; (with_reducible refine (HC.out wr.drew HRW.out.drew).mono ?_); rintro e w2 ⟨rfl, hbb⟩; have kk := (Kept.start wr).call hbb; clear hbb) | (go_at_call 18; (with_reducible refine (HC.out (wr.alloc (.cells #[.slice none 0 0, .int .i64 0] 28)).drew (HRW.out.alloc _).drew).mono ?_); rintro e w2 ⟨rfl, hbb⟩; have kb := (Blk.new wr 28 #[.slice none 0 0, .int .i64 0]).drew.kept hbb; have d0 : w2.cell? ⟨wr.heap.size, 0, none⟩ = some (.slice none 0 0) := kb.cell 0; have d1 : w2.cell? ⟨wr.heap.size, 1, none⟩ = some (.int .i64 0) := kb.cell 1; have f0 := kb.frozen 0; have f1 := kb.frozen 1; have kk := ((Kept.of (Below.refl _ wr)).alloc (.cells #[.slice none 0 0, .int .i64 0] 28)).drew.call hbb; clear hbb))
          all_goals go_wp2_with fail
          all_goals go_meet
          all_goals first
            | exact ⟨_, rfl, rfl, rfl, kk.2.1, kk.alloc _, Blk.new _ _ _⟩
            | exact ⟨_, rfl, rfl, rfl, Nat.le_refl _, Kept.of (below_gr kk.2.2 kk.2.1 (store2' kb _ _).1 (Nat.le_refl _)), (store2' kb _ _).2⟩
        case rest =>
          obtain ⟨u, rfl, rfl, rfl, hu, kk, hbu⟩ := hcut
          have z2 := HB2.out.kept kk.2.2
          have c4 : wc.cell? ⟨w.heap.size + 1 + 1, 0, none⟩ = some (.slice A n cap) := z2.cell 0
          have c5 : wc.cell? ⟨w.heap.size + 1 + 1, 1, none⟩ = some (.int .i64 p) := z2.cell 1
          have c6 : wc.cell? ⟨u, 0, none⟩ = some (.slice A n cap) := hbu.cell 0
          have c7 : wc.cell? ⟨u, 1, none⟩ = some (.int .i64 p1) := hbu.cell 1
          have f6 := z2.frozen 0
          have f7 := z2.frozen 1
          have hst := store2' z2 (.slice A n cap) (.int .i64 p1)
          obtain ⟨W5, hW5⟩ : ∃ W5, (wc.setCell ⟨w.heap.size + 1 + 1, 0, none⟩ (.slice A n cap)).setCell ⟨w.heap.size + 1 + 1, 1, none⟩ (.int .i64 p1) = W5 := ⟨_, rfl⟩
          rw [hW5] at hst
          have HW5 := Lib.hid hW5
          have hB5 := below_gr ((Kept.of HB.out).call kk.2.2).2.2 (by have := ((Kept.of HB.out).call kk.2.2).2.1; omega) hst.1 (by omega)
          have z0 := (HB0.out.kept kk.2.2).grown hst.1 (by simp <;> omega)
          have z1 := (HB1.out.kept kk.2.2).grown hst.1 (by simp <;> omega)
          have hO5 : W5.ownsRow w.heap.size 3 1 (.slice A' j c') j (iv ((manyL L k bs).take j)) := (own_below HO.out kk.2.2).kept hst.1 (.inr (own_blk_ne (own_below HO.out kk.2.2) z2 (by decide)))
          have hs5 := hB5.size
          have hz5 : Hid (wc.heap.size = W5.heap.size) := Lib.hid (by rw [← hW5]; simp [World.setCell])
          have HO5 := Lib.hid hO5
          have HB5 := Lib.hid hB5
          have HZ0 := Lib.hid z0
          have HZ1 := Lib.hid z1
          have HZ2 := Lib.hid hst.2
          clear hO5 hB5 z0 z1 hst hW5 HB HB0 HB1 HB2 HO
          go_wp2_with (at_builtin; rw [HW5.out]; go_must (refine wpList_pushG slInt rfl _ _ rfl w.heap.size _ j (iv ((manyL L k bs).take j)) rfl HO5.out #[.int .i64 (x % y)] wc.heap.size rfl hz5.out rfl (uone_int _) (by unfold maxLen; omega) (by omega) hs5 ?_); intro A2 c2 w2 hown2 hb2 hgr2)
          go_roundw
          case rel =>
            refine ⟨j + 1, p1, by omega, Lib.hid (by rw [← HP1.out, hp.out]; omega), by go_num, ⟨A2, c2, rfl⟩, by rw [HT.out]; exact hown2, HB5.out.trans hb2, ?_, ?_, ?_, ?_⟩
            · exact HZ0.out.other HO5.out hgr2 (by decide)
            · exact HZ1.out.other HO5.out hgr2 (by decide)
            · exact HZ2.out.other HO5.out hgr2 (by decide)
            · refine Lib.hid (fun i y' hi hy' => ?_)
              by_cases hij : i < j
              · exact he.out i y' hij hy'
              · obtain rfl : i = j := by omega
                rw [HY.out] at hy'
                injection hy' with hy'
                have := hp.out
                omega
          case measure => simp [intOf]; omega
    · obtain rfl : j = m := by omega
      have c4 : wr.cell? ⟨w.heap.size + 1 + 1, 0, none⟩ = some (.slice A n cap) := hb2.cell 0
      have c5 : wr.cell? ⟨w.heap.size + 1 + 1, 1, none⟩ = some (.int .i64 p) := hb2.cell 1
      have c6 : wr.cell? ⟨w.heap.size + 1, 0, none⟩ = some (.slice none 0 0) := hb1.cell 0
      have c7 : wr.cell? ⟨w.heap.size + 1, 1, none⟩ = some (.int .i64 0) := hb1.cell 1
      have f6 := hb1.frozen 0
      have f7 := hb1.frozen 1
      have hs := hb.size
      have HP := Lib.hid (can_yes HLB.out hk he.out)
      have HT : Hid ((manyL L k bs).take j = manyL L k bs) := Lib.hid (List.take_of_length_le (by simp [manyL, HLB.out]; omega))
      have HO := Lib.hid hown
      have HB := Lib.hid hb
      have HB1 := Lib.hid hb1
      clear hb0 hb1 hb2 hb hown he
      go_wp2
      have hst := store2' HB1.out (.slice A n cap) (.int .i64 p)
      refine bodyPost_ret (v := .tuple #[.agg #[.slice A n cap, .int .i64 p], .slice A' j c', .bool true]) (by simp [results, Try.results23, go_sem, c6, c7]) rfl ⟨below_gr HB.out hs hst.1 (by omega), .inr ⟨HP.out, A', c', by rw [hp.out], ?_⟩⟩
      have := HO.out.kept hst.1 (.inr (own_blk_ne HO.out HB1.out (by decide)))
      rw [HT.out] at this
      exact this

end Go.Proofs.Ytncjfijpaheobaa
