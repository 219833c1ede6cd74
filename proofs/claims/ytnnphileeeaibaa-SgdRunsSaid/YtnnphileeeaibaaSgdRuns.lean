/-
  SgdRuns: the walk.
-/
import Derived.Test.YtnnphileeeaibaaSameAll
namespace Go.Proofs.Ytnnphileeeaibaa
set_option linter.unusedVariables false
set_option linter.unusedSimpArgs false
set_option maxRecDepth 100000
open Go.RowKit

theorem slVecsR : Sl Try.prog 62 29 (.slice none 0 0) 1 24 := ⟨Try.underlying62, by kernel_rfl, rfl, by omega⟩
theorem one_slvR (s : Option Addr × Nat × Nat) : ∀ u ∈ (#[slv s] : Array Value).toList, u.oneCell' = true := by
  intro u hu
  obtain rfl : u = slv s := by simpa using hu
  rfl

/-- What a run hands back, whether it ran or not. -/
def RunB (w : World) (ok : Bool) (N M k : Nat) (f : Nat → List Int × List Int) (en : Ending) (w' : World) : Prop :=
  ∃ S cS l, l.length = k ∧ en = .returned (.tuple #[.slice S k cS, .bool ok]) ∧ Rd w' 2 S k (stv N M l) ∧ (∀ i s, l[i]? = some s → Rd w' 1 s.1 N (iv (f (i + 1)).1) ∧ Rd w' 1 s.2.2.1 M (iv (f (i + 1)).2)) ∧ Below w.heap.size w w'
theorem RunOut.b {w : World} {t : TypeId} {ok : Bool} {N M m : Nat} {f : Nat → List Int × List Int} {en : Ending} {w' : World} (h : RunOut w t ok N M m f en w') : RunB w ok N M (if ok then m else 0) f en w' := by
  obtain ⟨hb, ⟨rfl, rfl⟩ | ⟨rfl, S, cS, l, hl, rfl, ho, hs⟩⟩ := h
  · exact ⟨none, 0, [], rfl, rfl, Rd.nil _ _ _, fun i s h => by simp at h, hb⟩
  · exact ⟨S, cS, l, hl, rfl, Rd.of_own ho, fun i s h => ⟨Rd.of_own (hs i s h).1, Rd.of_own (hs i s h).2⟩, hb⟩

set_option maxHeartbeats 4000000 in
theorem sgdRuns_near (ra mo sh : Int) (A B G : Option Addr) (N M c d m e : Nat) (ss : List (Option Addr × Nat × Nat)) (Ps Ms : List Int) (gss : List (List Int)) (ok : Bool) (w : World) (h1 : Ps.length = N) (h2 : Ms.length = M) (hss : ss.length = m) (hm : m ≤ 60) (r1 : Rd w 1 A N (iv Ps)) (r2 : Rd w 1 B M (iv Ms)) (r3 : Rd w 1 G m (ss.map slv))
    (hgs : ∀ i s, ss[i]? = some s → (gss.getD i []).length = s.2.1 ∧ Rd w 1 s.1 s.2.1 (iv (gss.getD i [])) ∧ s.2.1 ≤ 1000000) (hra : In1 ra) (hmo : In1 mo) (hPi : AllIn Ps) (hMi : AllIn Ms) (hok : ok = true ↔ GoodTo N M ss m) (hf1 : fewL [N, M, 0] = true) (hf2 : fewL (ss.map (·.2.1)) = true) (hsl : ∀ s ∈ ss, s.2.1 ≤ 9223372036854775807) :
    Calls Try.prog 6 #[.agg #[.int .i64 ra, .int .i64 mo, .int .i64 sh], .agg #[.slice A N c, .slice B M d], .slice G m e] w fun e w' => e = .returned (.bool true) ∧ Below w.heap.size w w' := by
  have hle := few_three N M 0 hf1
  have C1 := fun W => few13_any A B none N M 0 c d 0 W (by omega) (by omega) (by omega)
  simp only [hf1] at C1
  have HF1 := Lib.hid C1
  have HF2 := Lib.hid (fun W (hb : Below w.heap.size w W) => by
    have := few03_any G m e ss W hss hsl (r3.below hb) (by omega)
    rwa [hf2] at this)
  have R1 := Lib.hid r1
  have R2 := Lib.hid r2
  have R3 := Lib.hid r3
  have LS := Lib.hid hss
  have HG := Lib.hid (fun W (hb : Below w.heap.size w W) => given13_any A B N M c d Ps Ms W h1 h2 (r1.below hb) (r2.below hb) (by omega) (by omega))
  have HRn := Lib.hid (fun (A' B' G' : Option Addr) (c' d' e' : Nat) (W : World) (hb : Below w.heap.size w W) (q1 : Rd W 1 A' N (iv Ps)) (q2 : Rd W 1 B' M (iv Ms)) (q3 : Rd W 1 G' m (ss.map slv)) => (run_any ra mo sh A' B' G' N M c' d' m e' ss Ps Ms gss ok W h1 h2 hss (by omega) q1 q2 q3 (fun i s hs => ⟨(hgs i s hs).1, (hgs i s hs).2.1.below hb, (hgs i s hs).2.2⟩) (by omega) (by omega) hra hmo hPi hMi hok).mono (fun _ _ h => h.b))
  have HRr := Lib.hid (fun (W : World) (hb : Below w.heap.size w W) => (refRun_any ra mo sh A B G N M c d m e ss Ps Ms gss ok W h1 h2 hss (by omega) (r1.below hb) (r2.below hb) (r3.below hb) (fun i s hs => ⟨(hgs i s hs).1, (hgs i s hs).2.1.below hb, (hgs i s hs).2.2⟩) (by omega) (by omega) hra hmo hPi hMi hok).mono (fun _ _ h => h.b))
  have HFl : Hid (∀ i, (stAt ra mo sh Ps Ms gss i).1.length = N ∧ (stAt ra mo sh Ps Ms gss i).2.length = M) := Lib.hid (fun i => by rw [(stAt_len ra mo sh Ps Ms gss i).1, (stAt_len ra mo sh Ps Ms gss i).2]; exact ⟨h1, h2⟩)
  clear C1 r1 r2 r3 h1 h2 hss hgs hPi hMi hok hf1 hf2 hsl
  obtain ⟨w0, hw0⟩ : ∃ w0, (w.alloc (.cells #[.int .i64 ra, .int .i64 mo, .int .i64 sh] 23)).alloc (.cells #[.slice A N c, .slice B M d] 26) = w0 := ⟨_, rfl⟩
  have HW := Lib.hid hw0
  have HK0 : Hid (Below w.heap.size w w0) := Lib.hid (by rw [← hw0]; exact (((Kept.of (Below.refl _ w)).alloc _).alloc _).2.2)
  have HR0 : Hid (Blk w0 w.heap.size 23 #[.int .i64 ra, .int .i64 mo, .int .i64 sh]) := Lib.hid (by rw [← hw0]; exact (Blk.new w _ _).alloc _)
  have HS0 : Hid (Blk w0 (w.heap.size + 1) 26 #[.slice A N c, .slice B M d]) := Lib.hid (by rw [← hw0]; exact Blk.new' _ _ (by simp))
  clear hw0
  go_enter Try.func6, Try.ntmps6
  go_wp2_with fail
  rw [HW.out]
  clear HW
  ((with_reducible refine (HF1.out _).mono ?_); rintro en w1 ⟨rfl, hb1⟩)
  have HK1 := Lib.hid ((Kept.of HK0.out).call hb1).2.2
  have HR1 := Lib.hid (HR0.out.kept hb1)
  have HS1 := Lib.hid (HS0.out.kept hb1)
  clear hb1 HR0 HS0
  go_wp2_with fail
  ((with_reducible refine (HF2.out _ HK1.out).mono ?_); rintro en w2 ⟨rfl, rfl⟩)
  go_wp2_with fail
  have lS1 := HS1.out.lt
  have z1 := HK1.out.size
  go_loopw [7, 28] (fun v i wr => ∃ j : Nat, j ≤ m ∧ i = .int .i64 j ∧ (∃ A c, v = .slice A j c) ∧ wr.ownsRow w1.heap.size 29 1 v j ((ss.take j).map slv) ∧ Below w1.heap.size w1 wr) (fun _ i _ => m - (intOf i).toNat)
  case atStart => exact ⟨0, by omega, rfl, ⟨none, 0, rfl⟩, by simpa using World.ownsRow_nil _ _ _ _, Below.refl _ _⟩
  case round =>
    obtain ⟨j, hj, rfl, ⟨Av, cv, rfl⟩, hown, hb⟩ := hrel
    have HKr := Lib.hid ((Kept.of HK1.out).call hb).2.2
    have HOw := Lib.hid hown
    have HB := Lib.hid hb
    have zr := hb.size
    clear hown
    by_cases hlt : j < m
    · obtain ⟨⟨As, n, cs⟩, hs⟩ : ∃ s, ss[j]? = some s := ⟨_, List.getElem?_eq_getElem (by rw [LS.out]; exact hlt)⟩
      obtain ⟨gb, go, rfl, ltg, hcg⟩ := (R3.out.below HKr.out).2 (by omega)
      have gc : wr.cell? ⟨gb, go + j, none⟩ = some (.slice As n cs) := hcg j (slv (As, n, cs)) (by rw [List.getElem?_map, hs]; rfl)
      have HT : Hid ((ss.take (j + 1)).map slv = (ss.take j).map slv ++ [.slice As n cs]) := Lib.hid (by
        obtain ⟨hk, hx⟩ := List.getElem?_eq_some_iff.1 hs
        rw [List.take_succ_eq_append_getElem hk, List.map_append, hx]
        rfl)
      clear hcg hs hb
      go_wp2_with (at_builtin; go_must (refine wpList_push slVecsR rfl _ _ rfl w1.heap.size _ j ((ss.take j).map slv) rfl HOw.out #[.slice As n cs] wr.heap.size rfl rfl rfl (one_slvR (As, n, cs)) (by unfold maxLen; omega) (by omega) zr ?_); go_must (intro A' c' wv hown' hb'; (have HOv := Lib.hid hown'); (have HBb := Lib.hid hb'); clear hown' hb'))
      go_roundw
      case rel => exact ⟨j + 1, by omega, by go_num, ⟨A', c', rfl⟩, by rw [HT.out]; exact HOv.out, HB.out.trans HBb.out⟩
      case measure => simp [intOf]; omega
    · obtain rfl : j = m := by omega
      rw [show (ss.take j).map slv = ss.map slv by rw [← LS.out, List.take_length]] at HOw
      have kb := ((Kept.of HK1.out).call hb)
      have HRr1 := Lib.hid (HR1.out.kept hb)
      have HSr1 := Lib.hid (HS1.out.kept hb)
      have k0 : wr.cell? ⟨w.heap.size, 0, none⟩ = some (.int .i64 ra) := HRr1.out.cell 0
      have k1 : wr.cell? ⟨w.heap.size, 1, none⟩ = some (.int .i64 mo) := HRr1.out.cell 1
      have k2 : wr.cell? ⟨w.heap.size, 2, none⟩ = some (.int .i64 sh) := HRr1.out.cell 2
      have s0 : wr.cell? ⟨w.heap.size + 1, 0, none⟩ = some (.slice A N c) := HSr1.out.cell 0
      have s1 : wr.cell? ⟨w.heap.size + 1, 1, none⟩ = some (.slice B M d) := HSr1.out.cell 1
      have b1 := HRr1.out.lt
      have b2 := HSr1.out.lt
      have HV := Lib.hid (Rd.of_own HOw.out)
      obtain ⟨kq, hkq⟩ : ∃ kq, (if ok then j else 0) = kq := ⟨_, rfl⟩
      have hkm : kq ≤ j := by cases ok <;> simp at hkq <;> omega
      rw [hkq] at HRn HRr
      clear hkq kb hb
      go_wp2_with fail
      go_region_held3 (fun w' => Kept wr w') (first | exact kk | exact kk.alloc _ | exact Kept.start wr) (first
        | (go_at_call 15; (with_reducible refine (HG.out wr.drew ((Kept.of HKr.out).call (Kept.start wr).2.2).2.2).mono ?_); rintro e wa ⟨AX, cX, AY, cY, rfl, hX, hY, _, hb⟩; have kk := (Kept.start wr).call hb; have HX := Lib.hid (Rd.of_own hX); have HY := Lib.hid (Rd.of_own hY); clear hX hY hb)
        | (go_at_call 30; (with_reducible refine (HRn.out _ _ _ _ _ _ _ ((Kept.of HKr.out).call kk.2.2).2.2 HX.out HY.out (HV.out.below kk.2.2)).mono ?_); rintro e wb ⟨S, cS, l, hl, rfl, hS, hrow, hb⟩; replace kk := kk.call hb; have HLl := Lib.hid hl; have HSS := Lib.hid hS; have HRow := Lib.hid hrow; clear hl hS hrow hb))
      have HKb := Lib.hid ((Kept.of HKr.out).call kk.2.2).2.2
      have HRb := Lib.hid (HRr1.out.kept kk.2.2)
      have HSb := Lib.hid (HSr1.out.kept kk.2.2)
      clear k0 k1 k2 s0 s1 b1 b2
      have k0 : wb.cell? ⟨w.heap.size, 0, none⟩ = some (.int .i64 ra) := HRb.out.cell 0
      have k1 : wb.cell? ⟨w.heap.size, 1, none⟩ = some (.int .i64 mo) := HRb.out.cell 1
      have k2 : wb.cell? ⟨w.heap.size, 2, none⟩ = some (.int .i64 sh) := HRb.out.cell 2
      have s0 : wb.cell? ⟨w.heap.size + 1, 0, none⟩ = some (.slice A N c) := HSb.out.cell 0
      have s1 : wb.cell? ⟨w.heap.size + 1, 1, none⟩ = some (.slice B M d) := HSb.out.cell 1
      have b1 := HRb.out.lt
      have b2 := HSb.out.lt
      have HKK := Lib.hid kk
      clear kk
      go_wp2_with fail
      ((with_reducible refine (HRr.out _ HKb.out).mono ?_); rintro en wd ⟨S', cS', l', hl', rfl, hS', hrow', hbd⟩)
      have HKd := Lib.hid ((Kept.of HKb.out).call hbd).2.2
      have HSd := Lib.hid (HSS.out.below hbd)
      have HRowd : Hid (∀ i s, l[i]? = some s → Rd wd 1 s.1 N (iv (stAt ra mo sh Ps Ms gss (i + 1)).1) ∧ Rd wd 1 s.2.2.1 M (iv (stAt ra mo sh Ps Ms gss (i + 1)).2)) := Lib.hid (fun i s h => ⟨(HRow.out i s h).1.below hbd, (HRow.out i s h).2.below hbd⟩)
      have HSd' := Lib.hid hS'
      have HRowd' := Lib.hid hrow'
      have HLl' := Lib.hid hl'
      clear hbd hS' hrow' hl' k0 k1 k2 s0 s1 b1 b2 HRow HSS HRr HRn HG
      go_wp2_with fail
      go_loopw [14, 54] (fun v i wr => ∃ j : Nat, j ≤ kq ∧ i = .int .i64 j ∧ (∃ A c, v = .slice A j c) ∧ wr.ownsRow wd.heap.size 26 2 v j (stv N M (l.take j)) ∧ Below wd.heap.size wd wr) (fun _ i _ => kq - (intOf i).toNat)
      case atStart => exact ⟨0, by omega, rfl, ⟨none, 0, rfl⟩, by simpa [stv] using World.ownsRow_nil _ _ _ _, Below.refl _ _⟩
      case round =>
        obtain ⟨i, hi, rfl, ⟨A2, c2, rfl⟩, hown2, hb2⟩ := hrel
        have HO2 := Lib.hid hown2
        have HB2 := Lib.hid hb2
        have z2 := hb2.size
        clear hown2
        by_cases hlt : i < kq
        · obtain ⟨⟨a1, a2, a3, a4⟩, hs⟩ : ∃ s, l[i]? = some s := ⟨_, List.getElem?_eq_getElem (by rw [HLl.out]; exact hlt)⟩
          obtain ⟨gb, go, rfl, ltg, hcg⟩ := (HSd.out.below hb2).2 (by omega)
          obtain ⟨v0, v1⟩ := stv_get N M l i _ hs
          have c0 := hcg _ _ v0
          have c1 := hcg _ _ v1
          rw [← Nat.add_assoc] at c1
          have HT : Hid (stv N M (l.take (i + 1)) = stv N M (l.take i) ++ [.slice a1 N a2, .slice a3 M a4]) := Lib.hid (by
            obtain ⟨hk, hx⟩ := List.getElem?_eq_some_iff.1 hs
            rw [List.take_succ_eq_append_getElem hk, stv_append, hx]
            rfl)
          clear hcg v0 v1 hs hb2
          go_wp2_with fail
          ((with_reducible refine (back13_any _ _ _ _ _ _ _).mono ?_); rintro en w5 ⟨rfl, hb5⟩)
          have HO5 := Lib.hid (own_below (own_below HO2.out ((Below.refl _ _).alloc (Nat.le_refl _) _)) hb5)
          have HB5 := Lib.hid ((((Kept.of HB2.out).alloc _).call hb5).2.2)
          have z5 := HB5.out.size
          clear hb5 c0 c1
          go_wp2_with (at_builtin; go_must (refine wpList_push slStr rfl _ _ rfl wd.heap.size _ i (stv N M (l.take i)) rfl HO5.out #[.slice a1 N a2, .slice a3 M a4] w5.heap.size rfl rfl rfl (two_slices _ _ _ _ _ _) (by unfold maxLen; omega) (by omega) z5 ?_); go_must (intro A' c' wv hown' hb'; (have HOv := Lib.hid hown'); (have HBb := Lib.hid hb'); clear hown' hb'))
          go_roundw
          case rel => exact ⟨i + 1, by omega, by go_num, ⟨A', c', rfl⟩, by rw [HT.out]; exact HOv.out, HB5.out.trans HBb.out⟩
          case measure => simp [intOf]; omega
        · obtain rfl : i = kq := by omega
          rw [show l.take i = l by rw [← HLl.out, List.take_length]] at HO2
          have HRA := Lib.hid (Rd.of_own HO2.out)
          clear hb2
          go_wp2_with fail
          ((with_reducible refine (alive13_any _).mono ?_); rintro en w6 ⟨rfl, hb6⟩)
          have k6 := (Kept.of HB2.out).call hb6
          have hSm := sameAll_any A2 S' i c2 cS' N M l l' (stAt ra mo sh Ps Ms gss) w6 HLl.out HLl'.out (by omega) (HRA.out.below hb6) (HSd'.out.below k6.2.2) (fun i s h => ⟨(HRowd.out i s h).1.below k6.2.2, (HRowd.out i s h).2.below k6.2.2⟩) (fun i s h => ⟨(HRowd'.out i s h).1.below k6.2.2, (HRowd'.out i s h).2.below k6.2.2⟩) HFl.out (by omega) (by omega)
          have HSm := Lib.hid hSm
          have HK6 := Lib.hid ((Kept.of HKd.out).call k6.2.2).2.2
          clear hSm k6 hb6
          cases ok <;> go_wp2_with fail
          all_goals ((with_reducible refine HSm.out.mono ?_); rintro en w7 ⟨rfl, hb7⟩)
          all_goals go_wp2
          all_goals go_ret
          all_goals exact ⟨rfl, ((Kept.of HK6.out).call hb7).2.2⟩

end Go.Proofs.Ytnnphileeeaibaa
