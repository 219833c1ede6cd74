/-
  Contracts: the reference's Run.
-/
import Derived.Test.YtnnphileeeaibaaRun
namespace Go.Proofs.Ytnnphileeeaibaa
set_option linter.unusedVariables false
set_option linter.unusedSimpArgs false
set_option maxRecDepth 100000
open Go.RowKit

theorem slStr : Sl Try.prog 66 26 (.agg #[.slice none 0 0, .slice none 0 0]) 2 48 := ⟨Try.underlying66, by kernel_rfl, rfl, by omega⟩

set_option maxHeartbeats 4000000 in
theorem refRun_any (ra mo sh : Int) (A B G : Option Addr) (N M c d m e : Nat) (ss : List (Option Addr × Nat × Nat)) (Ps Ms : List Int) (gss : List (List Int)) (ok : Bool) (w : World) (h1 : Ps.length = N) (h2 : Ms.length = M) (hss : ss.length = m) (hm : m ≤ 1000) (r1 : Rd w 1 A N (iv Ps)) (r2 : Rd w 1 B M (iv Ms)) (r3 : Rd w 1 G m (ss.map slv))
    (hgs : ∀ i s, ss[i]? = some s → (gss.getD i []).length = s.2.1 ∧ Rd w 1 s.1 s.2.1 (iv (gss.getD i [])) ∧ s.2.1 ≤ 1000000) (hN : N ≤ 1000000) (hM : M ≤ 1000000) (hra : In1 ra) (hmo : In1 mo) (hPi : AllIn Ps) (hMi : AllIn Ms) (hok : ok = true ↔ GoodTo N M ss m) :
    Calls Try.prog 31 #[.agg #[.int .i64 ra, .int .i64 mo, .int .i64 sh], .agg #[.slice A N c, .slice B M d], .slice G m e] w (RunOut w 26 ok N M m (stAt ra mo sh Ps Ms gss)) := by
  have R1 := Lib.hid r1
  have R2 := Lib.hid r2
  have R3 := Lib.hid r3
  have L1 := Lib.hid h1
  have L2 := Lib.hid h2
  have LS := Lib.hid hss
  have GS := Lib.hid hgs
  have HPi := Lib.hid hPi
  have HMi := Lib.hid hMi
  have HOk := Lib.hid hok
  clear r1 r2 r3 h1 h2 hss hgs hPi hMi hok
  obtain ⟨w0, hw0⟩ : ∃ w0, (w.alloc (.cells #[.int .i64 ra, .int .i64 mo, .int .i64 sh] 23)).alloc (.cells #[.slice A N c, .slice B M d] 26) = w0 := ⟨_, rfl⟩
  have HW := Lib.hid hw0
  have HK0 : Hid (Below w.heap.size w w0) := Lib.hid (by rw [← hw0]; exact (((Kept.of (Below.refl _ w)).alloc _).alloc _).2.2)
  have HR0 : Hid (Blk w0 w.heap.size 23 #[.int .i64 ra, .int .i64 mo, .int .i64 sh]) := Lib.hid (by rw [← hw0]; exact (Blk.new w _ _).alloc _)
  have HS0 : Hid (Blk w0 (w.heap.size + 1) 26 #[.slice A N c, .slice B M d]) := Lib.hid (by rw [← hw0]; exact Blk.new' _ _ (by simp))
  clear hw0
  go_enter Try.func31, Try.ntmps31
  go_wp2_with fail
  rw [HW.out]
  clear HW
  have lS0 := HS0.out.lt
  go_loopw [8, 9] (fun v i wr => ∃ j : Nat, j ≤ m ∧ i = .int .i64 j ∧ But (fun b => b = w.heap.size + 1) w0 wr ∧ GoodTo N M ss j ∧ RunSt w0.heap.size 26 (w.heap.size + 1) N M (A, c, B, d) (stAt ra mo sh Ps Ms gss) j v wr) (fun _ i _ => m - (intOf i).toNat)
  case atStart => exact ⟨0, by omega, rfl, But.refl _ _, fun i s h => by omega, [], (A, c, B, d), rfl, ⟨none, 0, rfl⟩, World.ownsRow_nil _ _ _ _, fun i s h => by simp at h, HS0.out, .inl ⟨rfl, rfl⟩⟩
  case round =>
    obtain ⟨j, hj, rfl, hB, hgood, l, x, hl, ⟨Av, cv, rfl⟩, hown, hO, hbx, hx⟩ := hrel
    have hK : Below w.heap.size w wr := HK0.out.trans (hB.below HK0.out.size (fun i h => by omega))
    obtain ⟨q1, q2⟩ := OwnS.rows (x0 := (A, c, B, d)) hO hx (R1.out.below hK) (R2.out.below hK)
    obtain ⟨AA, cA, BB, cB⟩ := x
    have HQ1 := Lib.hid q1
    have HQ2 := Lib.hid q2
    have HB := Lib.hid hB
    have HGd := Lib.hid hgood
    have HL := Lib.hid hl
    have HOw := Lib.hid hown
    have HOs := Lib.hid hO
    have HBx := Lib.hid hbx
    have HKw := Lib.hid hK
    have hRu := HR0.out.but hB (by omega)
    have k0 : wr.cell? ⟨w.heap.size, 0, none⟩ = some (.int .i64 ra) := hRu.cell 0
    have k1 : wr.cell? ⟨w.heap.size, 1, none⟩ = some (.int .i64 mo) := hRu.cell 1
    have k2 : wr.cell? ⟨w.heap.size, 2, none⟩ = some (.int .i64 sh) := hRu.cell 2
    have s0 : wr.cell? ⟨w.heap.size + 1, 0, none⟩ = some (.slice AA N cA) := hbx.cell 0
    have s1 : wr.cell? ⟨w.heap.size + 1, 1, none⟩ = some (.slice BB M cB) := hbx.cell 1
    have b1 := hRu.lt
    have b2 := hbx.lt
    have z0 := hB.size
    clear q1 q2 hB hgood hl hown hO hbx hK hRu hx
    by_cases hlt : j < m
    · obtain ⟨⟨As, n, cs⟩, hs⟩ : ∃ s, ss[j]? = some s := ⟨_, List.getElem?_eq_getElem (by rw [LS.out]; exact hlt)⟩
      obtain ⟨g1, g2, g3⟩ := GS.out j _ hs
      obtain ⟨gb, go, rfl, ltg, hcg⟩ := (R3.out.below HKw.out).2 (by omega)
      have gc := hcg j (slv (As, n, cs)) (by rw [List.getElem?_map, hs]; rfl)
      have gc' : wr.cell? ⟨gb, go + j, none⟩ = some (.slice As n cs) := gc
      have HG1 := Lib.hid g1
      have HG2 := Lib.hid (g2.below HKw.out)
      have g3' : n ≤ 1000000 := g3
      have HSj := Lib.hid hs
      have ks0 : Kept wr (wr.alloc (.cells #[.slice none 0 0, .slice none 0 0] 26)).drew := ((Kept.of (Below.refl _ wr)).alloc _).drew
      clear g1 g2 g3 hcg gc hs
      by_cases hg : n = N ∧ N = M
      · obtain ⟨rfl, rfl⟩ := hg
        have HC := Lib.hid (fun W (k : Kept wr W) => refNext13_some ra mo sh AA BB As n cA cB cs (stAt ra mo sh Ps Ms gss j).1 (stAt ra mo sh Ps Ms gss j).2 (gss.getD j []) W (by rw [(stAt_len ra mo sh Ps Ms gss j).1, L1.out]) (by rw [(stAt_len ra mo sh Ps Ms gss j).2, L2.out]) HG1.out (HQ1.out.below k.2.2) (HQ2.out.below k.2.2) (HG2.out.below k.2.2) hN hra hmo (stAt_in ra mo sh Ps Ms gss j HPi.out HMi.out).1 (stAt_in ra mo sh Ps Ms gss j HPi.out HMi.out).2)
        go_wp2_with fail
        go_cut [10, 11] (fun s10 s11 wc => ∃ (u : Nat) (AQ AR : Option Addr) (cQ cR : Nat), s10 = .pointer (some ⟨u, 0, none⟩) ∧ s11 = .bool true ∧ wr.heap.size ≤ u ∧ Kept wr wc ∧ Blk wc u 26 #[.slice AQ n cQ, .slice AR n cR] ∧ wc.ownsRow wr.heap.size 2 1 (.slice AQ n cQ) n (iv (stAt ra mo sh Ps Ms gss (j + 1)).1) ∧ wc.ownsRow wr.heap.size 2 1 (.slice AR n cR) n (iv (stAt ra mo sh Ps Ms gss (j + 1)).2))
        case first =>
          go_region_held3 (fun w' => Kept wr w') (first | exact kk | exact kk.alloc _ | exact kst | exact ks0 | exact Kept.start wr) (first
            | (go_at_call 18; (with_reducible refine (HC.out wr.drew (Kept.start wr)).mono ?_); rintro e w2 ⟨AQ, cQ, AR, cR, rfl, hQ, hR, hb⟩; have kk := (Kept.start wr).call hb; have HOQ := Lib.hid (own_base hQ (Nat.le_refl wr.heap.size)); have HOR := Lib.hid (own_base hR (Nat.le_refl wr.heap.size)); clear hQ hR hb)
            | (go_at_call 18; (with_reducible refine (HC.out (wr.alloc (.cells #[.slice none 0 0, .slice none 0 0] 26)).drew ks0).mono ?_); rintro e w2 ⟨AQ, cQ, AR, cR, rfl, hQ, hR, hb⟩; have kk := ks0.call hb; have HB2 := Lib.hid ((Blk.new wr 26 #[.slice none 0 0, .slice none 0 0]).drew.kept hb); have d0 := HB2.out.cell 0; have d1 := HB2.out.cell 1; have f0 := HB2.out.frozen 0; have f1 := HB2.out.frozen 1; have HOQ := Lib.hid (own_base hQ ks0.2.1); have HOR := Lib.hid (own_base hR ks0.2.1); have HST := Lib.hid (store2' HB2.out (.slice AQ n cQ) (.slice AR n cR)); have kst := Kept.of (below_gr kk.2.2 kk.2.1 HST.out.1 (Nat.le_refl wr.heap.size)); clear hQ hR hb))
          all_goals go_wp2_with fail
          all_goals go_meet
          all_goals first
            | exact ⟨_, _, _, _, _, rfl, rfl, kk.2.1, kk.alloc _, Blk.new _ _ _, own_below HOQ.out ((Below.refl _ _).alloc (Nat.le_refl _) _), own_below HOR.out ((Below.refl _ _).alloc (Nat.le_refl _) _)⟩
            | exact ⟨_, _, _, _, _, rfl, rfl, Nat.le_refl _, kst, HST.out.2, HOQ.out.kept HST.out.1 (.inr (own_blk_ne HOQ.out HB2.out (by decide))), HOR.out.kept HST.out.1 (.inr (own_blk_ne HOR.out HB2.out (by decide)))⟩
        case rest =>
          rename World => wc
          obtain ⟨u, AQ, AR, cQ, cR, rfl, rfl, hu, kk, hbu, hQ, hR⟩ := hcut
          clear HC ks0 k0 k1 k2 gc'
          have HKK := Lib.hid kk
          have HBu := Lib.hid hbu
          have HOQ := Lib.hid hQ
          have HOR := Lib.hid hR
          have u0 : wc.cell? ⟨u, 0, none⟩ = some (.slice AQ n cQ) := hbu.cell 0
          have u1 : wc.cell? ⟨u, 1, none⟩ = some (.slice AR n cR) := hbu.cell 1
          have b3 := hbu.lt
          have z1 := kk.2.1
          clear hbu hQ hR
          have HOc := Lib.hid (own_below HOw.out HKK.out.2.2)
          have HBc := Lib.hid (HBx.out.kept HKK.out.2.2)
          have hst := store2' HBc.out (.slice AQ n cQ) (.slice AR n cR)
          have HST := Lib.hid hst
          obtain ⟨wd, hwd⟩ : ∃ wd, (wc.setCell ⟨w.heap.size + 1, 0, none⟩ (.slice AQ n cQ)).setCell ⟨w.heap.size + 1, 1, none⟩ (.slice AR n cR) = wd := ⟨_, rfl⟩
          have hgd : wc.grownBy wd (some (w.heap.size + 1)) := by rw [← hwd]; exact hst.1
          have HBd : Hid (Blk wd (w.heap.size + 1) 26 #[.slice AQ n cQ, .slice AR n cR]) := Lib.hid (by rw [← hwd]; exact hst.2)
          have HUd : Hid (Blk wd u 26 #[.slice AQ n cQ, .slice AR n cR]) := Lib.hid (Blk.grown HBu.out hgd (fun e' => by injection e' with e'; omega))
          have HOd := Lib.hid (HOc.out.kept hgd (.inr (fun e => by have := (HOc.out.lt _ e).1; omega)))
          have HSd := Lib.hid ((((HOs.out.below HKK.out.2.2).snoc (by rw [HL.out]; exact own_base HOQ.out z0) (by rw [HL.out]; exact own_base HOR.out z0))).blk HBc.out (by decide) hgd)
          have HBt := Lib.hid ((HB.out.call HKK.out.2.2).trans (But.of_gr hgd rfl))
          have HGd2 := Lib.hid hgd
          have zd := HBt.out.size
          have e0 : wd.cell? ⟨u, 0, none⟩ = some (.slice AQ n cQ) := HUd.out.cell 0
          have e1 : wd.cell? ⟨u, 1, none⟩ = some (.slice AR n cR) := HUd.out.cell 1
          have b4 := HUd.out.lt
          have d0 := HBc.out.cell 0
          have d1 := HBc.out.cell 1
          have f0 := HBc.out.frozen 0
          have f1 := HBc.out.frozen 1
          have lc := HBc.out.lt
          clear hst hgd
          go_wp2_with (at_builtin; clear hwd d0 d1 f0 f1 e0 e1; go_must (refine wpList_pushG slStr rfl _ _ rfl w0.heap.size _ j (stv n n l) rfl HOd.out #[.slice AQ n cQ, .slice AR n cR] wd.heap.size rfl rfl rfl (two_slices _ _ _ _ _ _) (by unfold maxLen; omega) (by omega) zd ?_); go_must (intro A' c' wv hown' hb' hgr'; (have HBv : Hid (Blk wv (w.heap.size + 1) 26 #[.slice AQ n cQ, .slice AR n cR]) := Lib.hid (Blk.grown (w := wd) HBd.out hgr' (fun e' => by have := (HOd.out.lt _ e'.symm).1; omega))); (have HOv := Lib.hid hown'); (have HBb := Lib.hid hb'); (have HGr := Lib.hid hgr'); clear hown' hb' hgr'))
          go_roundw
          case rel => exact ⟨j + 1, by omega, by go_num, HBt.out.more HBb.out, fun i s hi hs => (by
              rcases Nat.lt_succ_iff_lt_or_eq.1 hi with h | rfl
              · exact HGd.out i s h hs
              · rw [HSj.out] at hs; injection hs with hs; subst hs; exact ⟨rfl, rfl⟩), l ++ [(AQ, cQ, AR, cR)], (AQ, cQ, AR, cR), by simp [HL.out], ⟨A', c', rfl⟩, by rw [stv_append]; exact HOv.out, HSd.out.row HOd.out (by decide) HGr.out, HBv.out, .inr ⟨by omega, by simp [HL.out]⟩⟩
          case measure => simp [intOf]; omega
      · have HC := Lib.hid (fun W (k : Kept wr W) => refNext13_not ra mo sh AA BB As N M cA cB n cs W hN hM g3' hg)
        have HNg := Lib.hid hg
        clear hg
        go_wp2_with fail
        go_cut [10, 11] (fun s10 s11 wc => ∃ (u : Nat), s10 = .pointer (some ⟨u, 0, none⟩) ∧ s11 = .bool false ∧ Kept wr wc)
        case first =>
          go_region_held3 (fun w' => Kept wr w') (first | exact kk | exact kk.alloc _ | exact kst | exact ks0 | exact Kept.start wr) (first
            | (go_at_call 18; (with_reducible refine (HC.out wr.drew (Kept.start wr)).mono ?_); rintro e w2 ⟨rfl, hb⟩; have kk := (Kept.start wr).call hb; clear hb)
            | (go_at_call 18; (with_reducible refine (HC.out (wr.alloc (.cells #[.slice none 0 0, .slice none 0 0] 26)).drew ks0).mono ?_); rintro e w2 ⟨rfl, hb⟩; have kk := ks0.call hb; have HB2 := Lib.hid ((Blk.new wr 26 #[.slice none 0 0, .slice none 0 0]).drew.kept hb); have d0 := HB2.out.cell 0; have d1 := HB2.out.cell 1; have f0 := HB2.out.frozen 0; have f1 := HB2.out.frozen 1; have HST := Lib.hid (store2' HB2.out (.slice none 0 0) (.slice none 0 0)); have kst := Kept.of (below_gr kk.2.2 kk.2.1 HST.out.1 (Nat.le_refl wr.heap.size)); clear hb))
          all_goals go_wp2_with fail
          all_goals go_meet
          all_goals first
            | exact ⟨_, rfl, rfl, kk.alloc _⟩
            | exact ⟨_, rfl, rfl, kst⟩
        case rest =>
          rename World => wc
          obtain ⟨u, rfl, rfl, kk⟩ := hcut
          have HKK := Lib.hid kk
          clear HC ks0 k0 k1 k2 gc' kk
          go_wp2_with fail
          refine bodyPost_ret (v := .tuple #[.slice none 0 0, .bool false]) (by simp [results, Try.results31, go_sem]) rfl ⟨((Kept.of HKw.out).call HKK.out.2.2).2.2, .inl ⟨?_, rfl⟩⟩
          cases ok with
          | false => rfl
          | true => exact absurd (HOk.out.1 rfl j _ hlt HSj.out) HNg.out
    · obtain rfl : j = m := by omega
      go_wp2_with fail
      exact bodyPost_ret (v := .tuple #[.slice Av j cv, .bool true]) (by simp [results, Try.results31, go_sem]) rfl ⟨HKw.out, .inr ⟨HOk.out.2 HGd.out, Av, cv, l, HL.out, rfl, own_base HOw.out HK0.out.size, HOs.out.base HK0.out.size⟩⟩

end Go.Proofs.Ytnnphileeeaibaa
