/-
  DrawKeeps: the walk.
-/
import Derived.Test.YtncjfijpaheobaaDrawKeeps
import Derived.Test.YtncjfijpaheobaaBut
import Derived.Laws.EntriesVeiled
import Derived.Shelf.Abstract
namespace Go.Proofs.Ytncjfijpaheobaa
set_option linter.unusedVariables false
set_option linter.unusedSimpArgs false
set_option maxRecDepth 100000
open Go.RowKit Go.Shelf

theorem lit_empty {w W0 : World} (e : W0.heap.size = w.heap.size + 1) : (W0.alloc (.cells #[] 38)).ownsRow W0.heap.size 38 1 (.slice (some ⟨w.heap.size + 1, 0, none⟩) 0 0) 0 [] := by
  have h := World.ownsRow_lit (base := W0.heap.size) (e := 38) (size := 1) W0 #[] 0 (Nat.le_refl _) (by unfold maxLen; omega) rfl
  rw [e] at h ⊢
  exact h
theorem Stm.but {S : Nat → Prop} {w w' : World} {b : Nat} {A : Option Addr} {n cap k : Nat} {L : List Int} (h : Stm w b A n cap k L) (hb : But S w w') (h1 : ¬ S b) (h2 : ∀ b' o, A = some ⟨b', o, none⟩ → 0 < n → ¬ S b') : Stm w' b A n cap k L :=
  ⟨h.blk.but hb h1, h.len, h.le, h.rd.but hb h2, h.apart, h.inb⟩


set_option maxHeartbeats 4000000 in
theorem drawKeeps_far (A : Option Addr) (n cap : Nat) (l : List Int) (w : World) (hn : n * 8 ≤ 140737488351232) (hl : l.length = n) (hr : Rd w 1 A n (uv l)) (hu : InU l) (hfar : 300 < n) :
    Calls Try.prog 7 #[.slice A n cap] w fun e w' => e = .returned (.bool true) ∧ Below w.heap.size w w' := by
  obtain ⟨W0, hW0⟩ : ∃ W0, w.alloc (.cells #[.bool false] 4) = W0 := ⟨_, rfl⟩
  have k0 : Below w.heap.size w W0 := by rw [← hW0]; exact (Below.refl _ _).alloc (Nat.le_refl _) _
  have b0 : Blk W0 w.heap.size 4 #[.bool false] := by rw [← hW0]; exact Blk.new _ _ _
  have e0 : W0.heap.size = w.heap.size + 1 := by rw [← hW0, World.size_alloc]
  have HLIT := Lib.hid (lit_empty e0)
  have HCN := Lib.hid (fun A' c' W (r : Rd W 1 A' n (uv l)) => drawNew_any A' n c' l W hl r hn hu)
  have HR := Lib.hid (hr.below k0)
  have HRW := Lib.hid hr
  have HL := Lib.hid hl
  have HU := Lib.hid hu
  have HB0 := Lib.hid b0
  have HK0 := Lib.hid k0
  have HW0 := Lib.hid hW0
  have HE0 := Lib.hid e0
  clear hl hr hu b0 k0 hW0 e0
  go_enter Try.func7, Try.ntmps7
  go_wp2_with (at_builtin; rw [HW0.out]; go_must (refine wpList_appendAll slU64 rfl _ _ rfl W0.heap.size _ 0 [] rfl HLIT.out A n cap (uv l) rfl (HR.out.alloc _) (uv_one l) (by unfold maxLen; omega) (by omega) (by simp) ?_); go_must (intro A0 c0 w1 hown1 hb1; rw [Nat.zero_add, List.nil_append] at hown1; rw [Nat.zero_add]; (have HO1 := Lib.hid hown1); (have HB1 := Lib.hid hb1); clear hown1 hb1))
  have hw01 : Below W0.heap.size W0 w1 := ((Below.refl _ _).alloc (Nat.le_refl _) _).trans HB1.out
  have HK1 := Lib.hid ((Kept.of HK0.out).call hw01).2.2
  have HT1 := Lib.hid (HB0.out.kept hw01)
  have hwlt : w.heap.size < w1.heap.size := HT1.out.lt
  clear hw01
  ((with_reducible refine (HCN.out _ _ _ (Rd.of_own HO1.out)).mono ?_); rintro e w2 ⟨g, A1, c1, rfl, hst, hg, hA, hb2⟩)
  have HT2 := Lib.hid (HT1.out.kept hb2)
  have HK2 := Lib.hid ((Kept.of HK1.out).call hb2).2.2
  have HO2 := Lib.hid (own_below HO1.out hb2)
  have HS2 := Lib.hid hst
  have HA2 := Lib.hid hA
  have t0 := HT2.out.lt
  clear hb2 hst hA
  go_wp2_with fail
  ((with_reducible refine (alive05_any _).mono ?_); rintro e w3 ⟨rfl, hb3⟩)
  have t3 := HT2.out.kept hb3
  have K3 := Lib.hid ((Kept.of HK2.out).call hb3).2.2
  have x0 : w3.cell? ⟨w.heap.size, 0, none⟩ = some (.bool false) := t3.cell 0
  have f0 := t3.frozen 0
  have l3 := t3.lt
  have HT3 := Lib.hid t3
  clear t3 hb3
  go_wp2
  have hst : (w3.setCell ⟨w.heap.size, 0, none⟩ (.bool true)).cell? ⟨w.heap.size, 0, none⟩ = some (.bool true) := (HT3.out.set_ 0 (.bool true)).cell 0
  refine bodyPost_ret (v := .bool true) (by simp [results, Try.results7, go_sem, hst]) rfl ⟨rfl, ?_⟩
  exact K3.out.setCell (p := ⟨w.heap.size, 0, none⟩) (Nat.le_refl _) _

set_option maxHeartbeats 4000000 in
theorem drawKeeps_near (A : Option Addr) (n cap : Nat) (l : List Int) (w : World) (hn : n * 8 ≤ 140737488351232) (hl : l.length = n) (hr : Rd w 1 A n (uv l)) (hu : InU l) (hfar : n ≤ 300) :
    Calls Try.prog 7 #[.slice A n cap] w fun e w' => e = .returned (.bool true) ∧ Below w.heap.size w w' := by
  obtain ⟨W0, hW0⟩ : ∃ W0, w.alloc (.cells #[.bool false] 4) = W0 := ⟨_, rfl⟩
  have k0 : Below w.heap.size w W0 := by rw [← hW0]; exact (Below.refl _ _).alloc (Nat.le_refl _) _
  have b0 : Blk W0 w.heap.size 4 #[.bool false] := by rw [← hW0]; exact Blk.new _ _ _
  have e0 : W0.heap.size = w.heap.size + 1 := by rw [← hW0, World.size_alloc]
  have HLIT := Lib.hid (lit_empty e0)
  have HCN := Lib.hid (fun A' c' W (r : Rd W 1 A' n (uv l)) => drawNew_any A' n c' l W hl r hn hu)
  have HR := Lib.hid (hr.below k0)
  have HRW := Lib.hid hr
  have HL := Lib.hid hl
  have HU := Lib.hid hu
  have HB0 := Lib.hid b0
  have HK0 := Lib.hid k0
  have HW0 := Lib.hid hW0
  have HE0 := Lib.hid e0
  clear hl hr hu b0 k0 hW0 e0
  refine (callsIn_wide (n := 9)).1 (callsIn_of_wp_marks Try.func7 rfl trivial (wpIn_wide.2 ?_) rfl)
  simp only [Try.ntmps7, List.size_toArray, List.length_cons, List.length_nil, Nat.reduceAdd, Nat.reduceSub, Array.replicate_succ, Array.replicate_zero, List.push_toArray, List.append_toArray, List.nil_append, List.cons_append]
  go_wp2_with (at_builtin; rw [HW0.out]; go_must (refine wpList_appendAll slU64 rfl _ _ rfl W0.heap.size _ 0 [] rfl HLIT.out A n cap (uv l) rfl (HR.out.alloc _) (uv_one l) (by unfold maxLen; omega) (by omega) (by simp) ?_); go_must (intro A0 c0 w1 hown1 hb1; rw [Nat.zero_add, List.nil_append] at hown1; rw [Nat.zero_add]; (have HO1 := Lib.hid hown1); (have HB1 := Lib.hid hb1); clear hown1 hb1))
  have hw01 : Below W0.heap.size W0 w1 := ((Below.refl _ _).alloc (Nat.le_refl _) _).trans HB1.out
  have HK1 := Lib.hid ((Kept.of HK0.out).call hw01).2.2
  have HT1 := Lib.hid (HB0.out.kept hw01)
  have hwlt : w.heap.size < w1.heap.size := HT1.out.lt
  clear hw01
  ((with_reducible refine (HCN.out _ _ _ (Rd.of_own HO1.out)).mono ?_); rintro e w2 ⟨g, A1, c1, rfl, hst, hg, hA, hb2⟩)
  have HT2 := Lib.hid (HT1.out.kept hb2)
  have HK2 := Lib.hid ((Kept.of HK1.out).call hb2).2.2
  have HO2 := Lib.hid (own_below HO1.out hb2)
  have HS2 := Lib.hid hst
  have HA2 := Lib.hid hA
  have t0 := HT2.out.lt
  clear hb2 hst hA
  go_wp2_with fail
  go_loopw [36] (fun i wr => ∃ (k : Nat) (xs : List Int), k ≤ n ∧ i = .int .i64 k ∧ xs.length = n ∧ wr.ownsRow W0.heap.size 38 1 (.slice A0 n c0) n (uv xs) ∧ w2.grownBy wr (Value.slice A0 n c0).ownBlock) (fun i _ => n - (intOf i).toNat)
  case atStart => exact ⟨0, l, by omega, rfl, HL.out, HO2.out, World.grownBy.refl _ _⟩
  case round =>
    obtain ⟨k, xs, hk, rfl, hx, ho, hgr⟩ := hrel
    by_cases hlt : k < n
    · obtain ⟨_, _, q1, q2, q3, q6⟩ := own_form ho
      injection q1 with q4 q5 q7
      subst q4 q7
      obtain ⟨g1, rfl, hg1, hg2⟩ := q6 (by omega)
      obtain ⟨z, hz⟩ : ∃ z, xs[k]? = some z := ⟨_, List.getElem?_eq_getElem (by rw [hx]; exact hlt)⟩
      have c0' : wr.cell? ⟨g1, k, none⟩ = some (.int .u64 z) := by
        rw [ho.cellAt k (by omega), uv, List.getElem?_map, hz]
        rfl
      have fz := ho.frozenAt k
      have HS := Lib.hid (ho.stored k (.int .u64 (IntKind.u64.wrap (z + 1))))
      have HG := Lib.hid hgr
      have HXS := Lib.hid hx
      have i0 : (0 : Int) ≤ (k : Int) := by omega
      have i1 : (k : Int) < (n : Int) := by omega
      clear ho hgr hx hz
      go_wp2_with fail
      go_roundw
      case rel => exact ⟨k + 1, xs.set k (IntKind.u64.wrap (z + 1)), by omega, by go_num, by rw [List.length_set]; exact HXS.out, by unfold uv; rw [List.map_set]; exact HS.out.1, HG.out.trans HS.out.2⟩
      case measure => simp [intOf]; omega
    · obtain rfl : k = n := by omega
      have hbut : But (fun b => W0.heap.size ≤ b ∧ b < w1.heap.size) w2 wr := But.of_own hgr (fun j e => HO1.out.lt j e)
      have hzw : w1.heap.size ≤ wr.heap.size := Nat.le_trans (by have := HS2.out.blk.lt; omega) hbut.size
      have HTr := Lib.hid (HT2.out.but hbut (by have := HE0.out; omega))
      have HKr := Lib.hid (HK2.out.trans (hbut.below (B := w.heap.size) HK2.out.size (fun i hi => by have := HE0.out; omega)))
      have HSr := Lib.hid (HS2.out.but hbut (by omega) (fun b' o e h0 => by have := HA2.out b' o e; omega))
      have hgl := HSr.out.blk.lt
      have HRr := Lib.hid (HRW.out.below HKr.out)
      have HAr : Hid (∀ b' o, A1 = some ⟨b', o, none⟩ → 0 < k → b' < wr.heap.size) := Lib.hid HSr.out.rd.lt
      clear hbut ho hgr hx
      go_wp2_with fail
      obtain ⟨v, hv⟩ : ∃ v, wr.heap.size = v := ⟨_, rfl⟩
      obtain ⟨W3, hW3⟩ : ∃ W3, wr.alloc (.cells #[.slice A k cap, .int .i64 0] 28) = W3 := ⟨_, rfl⟩
      have g3 : Below wr.heap.size wr W3 := by rw [← hW3]; exact (Below.refl _ _).alloc (Nat.le_refl _) _
      have b3 : Blk W3 v 28 #[.slice A k cap, .int .i64 0] := by rw [← hW3, ← hv]; exact Blk.new _ _ _
      have HS3 := Lib.hid (HSr.out.kept g3)
      have HT3 := Lib.hid (HTr.out.kept g3)
      have HK3 := Lib.hid ((Kept.of HKr.out).call g3).2.2
      have HB3 := Lib.hid b3
      rw [hW3, hv]
      have hvg : g < v := by omega
      have hvw : w.heap.size < v := by have := HTr.out.lt; omega
      have HAv : Hid (∀ b' o, A1 = some ⟨b', o, none⟩ → 0 < k → b' ≠ v) := Lib.hid (fun b' o e h0 => by have := HAr.out b' o e h0; omega)
      clear hW3 g3 b3 hv hgl
      go_loopw [50] (fun i ws => ∃ (j m : Nat), j ≤ k ∧ i = .int .i64 j ∧ Stm ws g A1 k c1 m l ∧ Blk ws v 28 #[.slice A k cap, .int .i64 m] ∧ Blk ws w.heap.size 4 #[.bool false] ∧ Below w.heap.size w ws) (fun i _ => k - (intOf i).toNat)
      case atStart => exact ⟨0, 0, by omega, rfl, HS3.out, HB3.out, HT3.out, HK3.out⟩
      case round =>
        rename World => ws
        obtain ⟨j, m, hj, rfl, hst, hblk, hbt, hb⟩ := hrel
        by_cases hjt : j < k
        · obtain ⟨x, ok, m', hm', C1, C2⟩ := step05 hst 1099511627776 (by omega) (by omega)
          have hgv : v ≠ g := by omega
          have HC1 := Lib.hid C1
          have HC2 := Lib.hid C2
          have HS4 := Lib.hid hst
          have HB4 := Lib.hid hblk
          have HT4 := Lib.hid hbt
          have HW4 := Lib.hid hb
          clear C1 C2 hst hblk hbt hb
          go_wp2_with fail
          ((with_reducible refine HC1.out.mono ?_); rintro e w4 ⟨rfl, hg4, hblk4⟩)
          have hst4 := HS4.out.turned hg4 hblk4 hm'
          have hv4 := HB4.out.grown hg4 (by simpa using hgv)
          have ht4 := HT4.out.grown hg4 (by simp; omega)
          have hb4 := below_gr HW4.out HW4.out.size hg4 (by omega)
          have HS5 := Lib.hid hst4
          have HB5 := Lib.hid hv4
          have HT5 := Lib.hid ht4
          have a0 : w4.cell? ⟨v, 0, none⟩ = some (.slice A k cap) := hv4.cell 0
          have a1 : w4.cell? ⟨v, 1, none⟩ = some (.int .i64 m) := hv4.cell 1
          have la := hv4.lt
          have HC3 := Lib.hid (HC2.out A cap w4 (HRW.out.below hb4))
          have HW5 := Lib.hid hb4
          clear hst4 hv4 ht4 hb4 hg4 hblk4 HS4 HB4 HT4 HW4 HC1 HC2
          go_wp2_with fail
          ((with_reducible refine HC3.out.mono ?_); rintro e w5 ⟨rfl, hb5⟩)
          have HS6 := Lib.hid (HS5.out.kept hb5)
          have HT6 := Lib.hid (HT5.out.kept hb5)
          have hv5 := HB5.out.kept hb5
          have HW6 := Lib.hid (((Kept.of HW5.out).call hb5).2.2)
          have c2 : w5.cell? ⟨v, 0, none⟩ = some (.slice A k cap) := hv5.cell 0
          have c3 : w5.cell? ⟨v, 1, none⟩ = some (.int .i64 m) := hv5.cell 1
          have f2 := hv5.frozen 0
          have f3 := hv5.frozen 1
          have hvlt := hv5.lt
          have HB6 := Lib.hid hv5
          have hxx : (x != x) = false := by simp
          clear hv5 a0 a1 la hb5 HS5 HB5 HT5 HW5 HC3
          have hst2 := store2 HB6.out (.cells #[.slice A k cap, .int .i64 m'] 28) (.slice A k cap) (.int .i64 m')
          have HG2 := Lib.hid hst2.1
          have HB7 := Lib.hid hst2.2
          clear hst2
          go_wp2_with fail
          go_roundw
          case rel => exact ⟨j + 1, m', by omega, by go_num, HS6.out.grown HG2.out (by omega) HAv.out, HB7.out, HT6.out.grown HG2.out (by simp; omega), below_gr HW6.out HW6.out.size HG2.out (by omega)⟩
          case measure => simp [intOf]; omega
        · have HT4 := Lib.hid hbt
          have HW4 := Lib.hid hb
          clear hst hblk hbt hb
          go_wp2_with fail
          ((with_reducible refine (next_nil 1 _).mono ?_); rintro e w6 ⟨rfl, hb6⟩)
          have HT6 := Lib.hid (HT4.out.kept hb6)
          have HW6 := Lib.hid ((Kept.of HW4.out).call hb6).2.2
          clear hb6 HT4 HW4
          go_wp2_with fail
          ((with_reducible refine (many_nil none 0 0 _).mono ?_); rintro e w7 ⟨rfl, rfl⟩)
          go_wp2_with fail
          refine wpIn_wide.1 (wpIn_range_none (F := Fence.wide) (n := 9) rfl (by omega) (gf := 21) (rv := .pointer none) rfl trivial (enters_of Try.func21 (by kernel_rfl) rfl) (fun yl W => all_nil yl _ W) ?done)
          case done =>
            intro D W hD hbW hK
            have HTW := Lib.hid (HT6.out.kept hbW)
            have HWW := Lib.hid ((Kept.of HW6.out).call hbW).2.2
            have hDl : D < W.heap.size := (Array.getElem?_eq_some_iff.1 hK).1
            clear hbW
            go_wp2_with fail
            ((with_reducible refine (alive05_any _).mono ?_); rintro e w8 ⟨rfl, hb8⟩)
            have t8 := HTW.out.kept hb8
            have x0 : w8.cell? ⟨w.heap.size, 0, none⟩ = some (.bool false) := t8.cell 0
            have f0 := t8.frozen 0
            have l8 := t8.lt
            have HT8 := Lib.hid t8
            have HW8 := Lib.hid ((Kept.of HWW.out).call hb8).2.2
            have hK8 : w8.heap[D]? = some (.deferred (some [])) := (hb8.block D hDl).trans hK
            clear t8 hb8 hK
            go_wp2_with fail
            ((with_reducible refine (left_nil _).mono ?_); rintro e w9 ⟨rfl, rfl⟩)
            go_wp2_with fail
            ((with_reducible refine (used_nil _).mono ?_); rintro e w9 ⟨rfl, rfl⟩)
            go_wp2_with fail
            ((with_reducible refine (streamClone_nil _).mono ?_); rintro e w9 ⟨rfl, rfl⟩)
            go_wp2_with fail
            have hst := HT8.out.set_ 0 (.bool true)
            have hK9 : (w8.setCell ⟨w.heap.size, 0, none⟩ (.bool true)).heap[D]? = some (.deferred (some [])) := by
              rw [heap_setCell_other _ _ _ _ (by have := HT6.out.lt; simp; omega)]
              exact hK8
            have hgs : w8.grownBy (w8.setCell ⟨w.heap.size, 0, none⟩ (.bool true)) (some w.heap.size) := gr_set (World.grownBy.refl w8 _) (.inl rfl) _
            obtain ⟨w9, hw9⟩ : ∃ w9, w8.setCell ⟨w.heap.size, 0, none⟩ (.bool true) = w9 := ⟨_, rfl⟩
            rw [hw9] at hst hK9 hgs ⊢
            refine ⟨by simp, .inl ⟨_, _, rfl, run_takeDeferred hK9, ?_⟩⟩
            have hg9 : w9.grownBy (w9.putObj D (.deferred none)) (some D) := grownBy_putObj' w9 D (.deferred none)
            have hb9 : Blk (w9.putObj D (.deferred none)) w.heap.size 4 #[.bool true] := Blk.grown (by simpa using hst) hg9 (by have := HT6.out.lt; simp; omega)
            have hc9 : (w9.putObj D (.deferred none)).cell? ⟨w.heap.size, 0, none⟩ = some (.bool true) := hb9.cell 0
            have hz := HW8.out.size
            exact ⟨.bool true, by simp [results, Try.results7, go_sem, hc9], rfl, (below_gr HW8.out hz hgs (Nat.le_refl _)).trans ((Below.refl _ _).grown hg9 (Nat.le_trans hz hgs.size) (fun k e => by cases e; have := HT6.out.lt; omega))⟩

theorem drawKeeps_any (A : Option Addr) (n cap : Nat) (l : List Int) (w : World) (hn : n * 8 ≤ 140737488351232) (hl : l.length = n) (hr : Rd w 1 A n (uv l)) (hu : InU l) :
    Calls Try.prog 7 #[.slice A n cap] w fun e w' => e = .returned (.bool true) ∧ Below w.heap.size w w' := by
  by_cases h : 300 < n
  · exact drawKeeps_far A n cap l w hn hl hr hu h
  · exact drawKeeps_near A n cap l w hn hl hr hu (by omega)

end Go.Proofs.Ytncjfijpaheobaa
