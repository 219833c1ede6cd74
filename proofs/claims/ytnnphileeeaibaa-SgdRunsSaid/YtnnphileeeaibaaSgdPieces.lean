/-
  SgdPieces: the walk.
-/
import Derived.Test.YtnnphileeeaibaaPartT
import Derived.Test.YtnnphileeeaibaaSgdCopies
namespace Go.Proofs.Ytnnphileeeaibaa
set_option linter.unusedVariables false
set_option linter.unusedSimpArgs false
set_option maxRecDepth 100000
open Go.RowKit

theorem rd_single1 (w : World) (t : TypeId) (x : Value) : Rd (w.alloc (.cells #[x] t)) 1 (some ⟨w.heap.size, 0, none⟩) 1 [x] := by
  refine ⟨rfl, fun h => ⟨w.heap.size, 0, rfl, by simp, fun j u hu => ?_⟩⟩
  have := (Blk.new w t #[x]).cell (0 + j)
  rw [this, Nat.zero_add, ← hu]
  simp
theorem few_one (N : Nat) (h : fewL [N] = true) : N ≤ 1500 := by
  simp [fewL, fewN] at h
  omega

set_option maxHeartbeats 400000 in
theorem sgdPieces_far (ra mo sh cb : Int) (A : Option Addr) (N c : Nat) (w : World) (hN : N ≤ 9223372036854775807) (hf : fewL [N] = false) :
    Calls Try.prog 7 #[.agg #[.int .i64 ra, .int .i64 mo, .int .i64 sh], .slice A N c, .int .u8 cb] w fun e w' => e = .returned (.bool true) ∧ Below w.heap.size w w' := by
  have C := fun W => few03_any (some ⟨World.heap W |>.size, 0, none⟩) 1 1 [(A, N, c)] (W.alloc (.cells #[.slice A N c] 24)) rfl (by intro s hs; simp at hs; rcases hs with rfl; assumption) (rd_single1 W _ _) (by omega)
  simp only [List.map_cons, List.map_nil, hf] at C
  have h1 := C (w.alloc (.cells #[.int .i64 ra, .int .i64 mo, .int .i64 sh] 23))
  simp only [World.size_alloc] at h1
  have HF := Lib.hid h1
  clear C hf h1
  go_enter Try.func7, Try.ntmps7
  go_wp2_with fail
  ((with_reducible refine HF.out.mono ?_); rintro e w1 ⟨rfl, rfl⟩)
  go_wp2_with fail
  ((with_reducible refine (alive13_any _).mono ?_); rintro e w2 ⟨rfl, hb2⟩)
  go_wp2
  go_ret
  exact ⟨rfl, ((((Kept.of (Below.refl _ w)).alloc _).alloc _).call hb2).2.2⟩

theorem sub_block {g c lo b o : Nat} (h : (if c = lo then some ⟨g, 0, none⟩ else (some (⟨g, 0, none⟩ : Addr)).map (fun x => x.add lo)) = some ⟨b, o, none⟩) : b = g := by
  split at h
  · injection h with h
    injection h with h1
    exact h1.symm
  · rw [Option.map_some] at h
    injection h with h
    unfold Addr.add at h
    by_cases hj : lo = 0 <;> simp [hj] at h <;> omega

/-- Apply on a block, as the law goes from the last block to the first. -/
theorem piece_apply (ra mo sh : Int) (AX AY AG : Option Addr) (N cX cY cG lo n hi base g : Nat) (Ps Zs gs : List Int) (W : World) (hX : W.ownsRow base 2 1 (.slice AX N cX) N (iv (pieceP ra mo sh Ps Zs gs (lo + n)))) (hY : W.ownsRow base 2 1 (.slice AY N cY) N (iv (pieceM mo sh Zs gs (lo + n))))
    (hne : ∀ g h, (Value.slice AX N cX).ownBlock = some g → (Value.slice AY N cY).ownBlock = some h → g ≠ h) (hG : Rd W 1 AG N (iv gs)) (hgl : gs.length = N) (hAG : AG = some ⟨g, 0, none⟩) (hgX : ∀ b, StB2 AX AY N N cX cY b → b ≠ g) (hcG : N ≤ cG) (hhi : hi = lo + n) (hfit : hi ≤ N) (hN : N ≤ 1000000) (hra : In1 ra) (hmo : In1 mo) (hPi : AllIn Ps) (hZi : AllIn Zs) :
    Calls Try.prog 21 #[.agg #[.int .i64 ra, .int .i64 mo, .int .i64 sh], .agg #[.slice AX N cX, .slice AY N cY], .agg #[.int .i64 lo, .int .i64 hi], .slice (if cG = lo then AG else AG.map (fun x => x.add lo)) n (cG - lo)] W fun en w' => en = .returned (.bool true) ∧
      w'.ownsRow base 2 1 (.slice AX N cX) N (iv (pieceP ra mo sh Ps Zs gs lo)) ∧ w'.ownsRow base 2 1 (.slice AY N cY) N (iv (pieceM mo sh Zs gs lo)) ∧ But (StB2 AX AY N N cX cY) W w' := by
  obtain ⟨bp, bm, hap⟩ : ∃ bp bm, (0 < N → AX = some ⟨bp, 0, none⟩ ∧ AY = some ⟨bm, 0, none⟩ ∧ bp ≠ bm) := by
    rcases Nat.eq_zero_or_pos N with h0 | h0
    · exact ⟨0, 0, fun h => by omega⟩
    · obtain ⟨_, _, q1, _, _, q6⟩ := own_form hX
      obtain ⟨_, _, s1, _, _, s6⟩ := own_form hY
      injection q1 with q4
      injection s1 with s4
      subst q4 s4
      obtain ⟨g, rfl, g1, _⟩ := q6 h0
      obtain ⟨k, rfl, k1, _⟩ := s6 h0
      exact ⟨g, k, fun _ => ⟨rfl, rfl, hne g k rfl rfl⟩⟩
  have hr := rd_sub hG (by rw [iv_length, hgl]) lo n cG (by omega) hcG
  rw [iv_sub] at hr
  refine (apply_any ra mo sh AX AY (if cG = lo then AG else AG.map (fun x => x.add lo)) N cX cY n (cG - lo) lo hi bp bm base (pieceP ra mo sh Ps Zs gs (lo + n)) (pieceM mo sh Zs gs (lo + n)) ((gs.drop lo).take n) W hX hY hap hr (sub_len hgl lo n (by omega)) (fun b o e h0 => ?_) hhi hfit hN hra hmo (pieceP_in _ _ _ _ _ _ _ hPi) (pieceM_in _ _ _ _ _ hZi)).mono ?_
  · rw [hAG] at e
    have hb := sub_block e
    subst hb
    obtain ⟨e1, e2, _⟩ := hap (by omega)
    exact ⟨fun h => hgX bp (.inl (by rw [e1]; rfl)) h.symm, fun h => hgX bm (.inr (by rw [e2]; rfl)) h.symm⟩
  · rintro _ w' ⟨rfl, p1, p2, hB⟩
    rw [pieceP_step] at p1
    rw [pieceM_step] at p2
    refine ⟨rfl, p1, p2, hB.mono (fun i _ hi => ?_)⟩
    obtain ⟨e1, e2, _⟩ := hap hi.1
    rcases hi.2 with rfl | rfl
    · exact .inl (by rw [e1]; rfl)
    · exact .inr (by rw [e2]; rfl)

set_option maxHeartbeats 4000000 in
theorem sgdPieces_near (ra mo sh : Int) (cb s : Nat) (A : Option Addr) (N c : Nat) (Ps : List Int) (w : World) (h1 : Ps.length = N) (r1 : Rd w 1 A N (iv Ps)) (hf : fewL [N] = true) (hra : In1 ra) (hmo : In1 mo) (hPi : AllIn Ps) (hs : cb % 9 + 1 = s) (hcb : cb ≤ 255) :
    Calls Try.prog 7 #[.agg #[.int .i64 ra, .int .i64 mo, .int .i64 sh], .slice A N c, .int .u8 cb] w fun e w' => e = .returned (.bool true) ∧ Below w.heap.size w w' := by
  have hle := few_one N hf
  have hcn := cnt_le N s
  have C := fun W => few03_any (some ⟨World.heap W |>.size, 0, none⟩) 1 1 [(A, N, c)] (W.alloc (.cells #[.slice A N c] 24)) rfl (by intro s hs; simp at hs; rcases hs with rfl; show N ≤ _; omega) (rd_single1 W _ _) (by omega)
  simp only [List.map_cons, List.map_nil, hf] at C
  have hF := C (w.alloc (.cells #[.int .i64 ra, .int .i64 mo, .int .i64 sh] 23))
  simp only [World.size_alloc] at hF
  have HF := Lib.hid hF
  have hzi : AllIn (zeros N) := fun x hx => by obtain rfl := List.eq_of_mem_replicate hx; constructor <;> omega
  have HZi := Lib.hid hzi
  have HPi := Lib.hid hPi
  have R1 := Lib.hid r1
  have L1 := Lib.hid h1
  have LZ : Hid ((zeros N).length = N) := Lib.hid (by simp)
  have HS := Lib.hid hs
  have HSt := Lib.hid (fun W (hb : Below w.heap.size w W) => sgdStart_any A N c Ps W h1 (r1.below hb) (by omega))
  have HCl := Lib.hid (fun W (hb : Below w.heap.size w W) => refClone_any A N c Ps W h1 (r1.below hb) (by omega))
  have HEs : Hid ((1 : Int) + (cb : Int) % 9 = (s : Int)) := Lib.hid (by omega)
  have hs1 : 1 ≤ s := by omega
  have hs2 : s ≤ 9 := by omega
  have HBl := Lib.hid (fun W => refBlocks_nat N s W (by omega) hs1 (by omega))
  clear C hf hF r1 h1 hs hzi hPi
  obtain ⟨w0, hw0⟩ : ∃ w0, (w.alloc (.cells #[.int .i64 ra, .int .i64 mo, .int .i64 sh] 23)).alloc (.cells #[.slice A N c] 24) = w0 := ⟨_, rfl⟩
  have HW := Lib.hid hw0
  have HK0 : Hid (Below w.heap.size w w0) := Lib.hid (by rw [← hw0]; exact (((Kept.of (Below.refl _ w)).alloc _).alloc _).2.2)
  have HR0 : Hid (Blk w0 w.heap.size 23 #[.int .i64 ra, .int .i64 mo, .int .i64 sh]) := Lib.hid (by rw [← hw0]; exact (Blk.new w _ _).alloc _)
  clear hw0
  go_enter Try.func7, Try.ntmps7
  go_wp2_with fail
  ((with_reducible refine HF.out.mono ?_); rintro e w1 ⟨rfl, rfl⟩)
  rw [HW.out]
  clear HW HF
  have c0 : w0.cell? ⟨w.heap.size, 0, none⟩ = some (.int .i64 ra) := HR0.out.cell 0
  have c1 : w0.cell? ⟨w.heap.size, 1, none⟩ = some (.int .i64 mo) := HR0.out.cell 1
  have c2 : w0.cell? ⟨w.heap.size, 2, none⟩ = some (.int .i64 sh) := HR0.out.cell 2
  have lr := HR0.out.lt
  go_wp2_with fail
  ((with_reducible refine (HSt.out w0 HK0.out).mono ?_); rintro en w3 ⟨AX, cX, AY, cY, rfl, hOX, hOY, hXY, hb3⟩)
  obtain ⟨w4, hw4⟩ : ∃ w4, w3.alloc (.cells #[.slice AX N cX, .slice AY N cY] 31) = w4 := ⟨_, rfl⟩
  have hb4 : Below w3.heap.size w3 w4 := by rw [← hw4]; exact (Below.refl _ _).alloc (Nat.le_refl _) _
  have HX4 : Hid (Blk w4 w3.heap.size 31 #[.slice AX N cX, .slice AY N cY]) := Lib.hid (by rw [← hw4]; exact Blk.new _ _ _)
  have hb04 := ((Kept.of hb3).call hb4).2.2
  have HK4 := Lib.hid ((Kept.of HK0.out).call hb04).2.2
  have HR4 := Lib.hid (HR0.out.kept hb04)
  have HOX4 := Lib.hid (own_below hOX hb4)
  have HOY4 := Lib.hid (own_below hOY hb4)
  have HXY := Lib.hid hXY
  have HFX : Hid (∀ g, (Value.slice AX N cX).ownBlock = some g → w0.heap.size ≤ g ∧ g < w3.heap.size) := Lib.hid hOX.lt
  have HFY : Hid (∀ g, (Value.slice AY N cY).ownBlock = some g → w0.heap.size ≤ g ∧ g < w3.heap.size) := Lib.hid hOY.lt
  have z03 := hb3.size
  have z0 := HK0.out.size
  have z34 := HX4.out.lt
  clear c0 c1 c2 hb3 hb4 hb04 hOX hOY hXY HR0 HSt
  go_wp2_with fail
  clear hw4
  ((with_reducible refine (HCl.out w4 HK4.out).mono ?_); rintro en w5 ⟨AG, cG, rfl, hOG, hb5⟩)
  have HK5 := Lib.hid ((Kept.of HK4.out).call hb5).2.2
  have HR5 := Lib.hid (HR4.out.kept hb5)
  have HX5 := Lib.hid (HX4.out.kept hb5)
  have HOX5 := Lib.hid (own_below HOX4.out hb5)
  have HOY5 := Lib.hid (own_below HOY4.out hb5)
  have HG5 := Lib.hid (Rd.of_own hOG)
  have HFG : Hid (∀ b o, AG = some ⟨b, o, none⟩ → w4.heap.size ≤ b) := Lib.hid (fun b o e => (own_rd_block hOG b o e).1)
  have HGf : Hid (0 < N → ∃ g, AG = some ⟨g, 0, none⟩) := Lib.hid (fun h0 => by
    obtain ⟨_, _, q1, _, _, q6⟩ := own_form hOG
    injection q1 with q4
    subst q4
    obtain ⟨g, rfl, _⟩ := q6 h0
    exact ⟨g, rfl⟩)
  have HGc : Hid (N ≤ cG) := Lib.hid (by
    obtain ⟨_, _, q1, q2, _, q6⟩ := own_form hOG
    injection q1 with _ _ q5
    omega)
  have c0 : w5.cell? ⟨w.heap.size, 0, none⟩ = some (.int .i64 ra) := HR5.out.cell 0
  have c1 : w5.cell? ⟨w.heap.size, 1, none⟩ = some (.int .i64 mo) := HR5.out.cell 1
  have c2 : w5.cell? ⟨w.heap.size, 2, none⟩ = some (.int .i64 sh) := HR5.out.cell 2
  have x0 : w5.cell? ⟨w3.heap.size, 0, none⟩ = some (.slice AX N cX) := HX5.out.cell 0
  have x1 : w5.cell? ⟨w3.heap.size, 1, none⟩ = some (.slice AY N cY) := HX5.out.cell 1
  have lr5 := HR5.out.lt
  have lx5 := HX5.out.lt
  have z45 := hb5.size
  have HNx := Lib.hid (next13_some ra mo sh AX AY AG N cX cY cG Ps (zeros N) Ps w5 L1.out LZ.out L1.out (Rd.of_own HOX5.out) (Rd.of_own HOY5.out) HG5.out (by omega) hra hmo HPi.out HZi.out)
  clear hOG hb5 HK4 HR4 HX4 HOX4 HOY4 HCl
  go_wp2_with fail
  ((with_reducible refine HNx.out.mono ?_); rintro en w6 ⟨AP, cP, AM, cM, rfl, hOP, hOM, hPM, hb6⟩)
  obtain ⟨w7, hw7⟩ : ∃ w7, w6.alloc (.cells #[.slice AP N cP, .slice AM N cM] 31) = w7 := ⟨_, rfl⟩
  have hb7 : Below w6.heap.size w6 w7 := by rw [← hw7]; exact (Below.refl _ _).alloc (Nat.le_refl _) _
  have HP7 : Hid (Blk w7 w6.heap.size 31 #[.slice AP N cP, .slice AM N cM]) := Lib.hid (by rw [← hw7]; exact Blk.new _ _ _)
  have hb57 := ((Kept.of hb6).call hb7).2.2
  have HK7 := Lib.hid ((Kept.of HK5.out).call hb57).2.2
  have HR7 := Lib.hid (HR5.out.kept hb57)
  have HX7 := Lib.hid (HX5.out.kept hb57)
  have HOX7 := Lib.hid (own_below HOX5.out hb57)
  have HOY7 := Lib.hid (own_below HOY5.out hb57)
  have HG7 := Lib.hid (HG5.out.below hb57)
  have HRP7 := Lib.hid ((Rd.of_own hOP).below hb7)
  have HRM7 := Lib.hid ((Rd.of_own hOM).below hb7)
  have HFP : Hid (∀ b o, AP = some ⟨b, o, none⟩ → w5.heap.size ≤ b) := Lib.hid (fun b o e => (own_rd_block hOP b o e).1)
  have HFM : Hid (∀ b o, AM = some ⟨b, o, none⟩ → w5.heap.size ≤ b) := Lib.hid (fun b o e => (own_rd_block hOM b o e).1)
  have z56 := hb6.size
  have z67 := HP7.out.lt
  clear c0 c1 c2 x0 x1 hOP hOM hPM hb6 hb7 hb57 HK5 HR5 HX5 HOX5 HOY5 HG5 HNx
  go_wp2_with fail
  clear hw7
  rw [HEs.out]
  ((with_reducible refine (HBl.out _).mono ?_); rintro en w8 ⟨AK, cK, rfl, hOK, hb8⟩)
  have hb78 := hb8
  have HK8 := Lib.hid ((Kept.of HK7.out).call hb8).2.2
  have HR8 := Lib.hid (HR7.out.kept hb8)
  have HX8 := Lib.hid (HX7.out.kept hb8)
  have HP8 := Lib.hid (HP7.out.kept hb8)
  have HOX8 := Lib.hid (own_below HOX7.out hb8)
  have HOY8 := Lib.hid (own_below HOY7.out hb8)
  have HG8 := Lib.hid (HG7.out.below hb8)
  have HRP8 := Lib.hid (HRP7.out.below hb8)
  have HRM8 := Lib.hid (HRM7.out.below hb8)
  have HK := Lib.hid (Rd.of_own hOK)
  have HFK : Hid (∀ b o, AK = some ⟨b, o, none⟩ → w7.heap.size ≤ b) := Lib.hid (fun b o e => (own_rd_block hOK b o e).1)
  have z78 := hb8.size
  have HCe : Hid (N ≤ cnt N s * s) := Lib.hid (by
    rcases Nat.eq_zero_or_pos N with h0 | h0
    · omega
    · have := lt_cnt N s (cnt N s) h0 hs1
      omega)
  clear hb78 hOK hb8 HK7 HR7 HX7 HP7 HOX7 HOY7 HG7 HRP7 HRM7 HBl
  go_wp2_with fail
  obtain ⟨z, hz⟩ : ∃ z : Int, (cnt N s : Int) - 1 = z := ⟨_, rfl⟩
  try rw [hz]
  have HZ := Lib.hid hz
  clear hz
  go_loopw [12] (fun v wr => ∃ (i : Nat) (z : Int), i ≤ cnt N s ∧ Hid ((i : Int) - 1 = z) ∧ v = .int .i64 z ∧ wr.ownsRow w0.heap.size 2 1 (.slice AX N cX) N (iv (pieceP ra mo sh Ps (zeros N) Ps (min (i * s) N))) ∧ wr.ownsRow w0.heap.size 2 1 (.slice AY N cY) N (iv (pieceM mo sh (zeros N) Ps (min (i * s) N))) ∧ But (StB2 AX AY N N cX cY) w8 wr) (fun v _ => (intOf v + 1).toNat)
  case atStart => exact ⟨cnt N s, z, Nat.le_refl _, HZ, rfl, by rw [Nat.min_eq_right HCe.out, pieceP_end _ _ _ _ _ _ _ (by rw [L1.out]; exact Nat.le_refl _)]; exact HOX8.out, by rw [Nat.min_eq_right HCe.out, pieceM_end _ _ _ _ _ (by rw [LZ.out]; exact Nat.le_refl _)]; exact HOY8.out, But.refl _ _⟩
  case round =>
    obtain ⟨i, z', hi, hz', rfl, hOX, hOY, hB⟩ := hrel
    have far : ∀ b, StB2 AX AY N N cX cY b → w0.heap.size ≤ b ∧ b < w3.heap.size := fun b h => by
      rcases h with h | h
      · exact HFX.out b h
      · exact HFY.out b h
    have hR9 := HR8.out.but hB (fun h => by have := far _ h; omega)
    have hX9 := HX8.out.but hB (fun h => by have := far _ h; omega)
    have hP9 := HP8.out.but hB (fun h => by have := far _ h; omega)
    have hG9 := HG8.out.but hB (fun b o e h0 h => by have := far _ h; have := HFG.out b o e; omega)
    have hK9 := HK.out.but hB (fun b o e h0 h => by have := far _ h; have := HFK.out b o e; omega)
    by_cases h0 : 0 ≤ z'
    · obtain ⟨m, rfl⟩ := Int.eq_ofNat_of_zero_le h0
      obtain rfl : i = m + 1 := by have := hz'.out; omega
      have hmN : m * s < N := by
        rcases Nat.eq_zero_or_pos N with h | h
        · have := cnt_le N s; omega
        · exact (lt_cnt N s m h hs1).1 (by omega)
      have hat := blocks_at N s m (by omega)
      have hst : (m + 1) * s = m * s + s := by rw [Nat.add_mul]; omega
      obtain ⟨lo, hlo⟩ : ∃ lo, m * s = lo := ⟨_, rfl⟩
      rw [hlo] at hat hmN hst
      obtain ⟨n, hn⟩ : ∃ n, min s (N - lo) = n := ⟨_, rfl⟩
      rw [hn] at hat
      obtain ⟨hi', hhi⟩ : ∃ h, lo + n = h := ⟨_, rfl⟩
      rw [show min ((m + 1) * s) N = lo + n by omega] at hOX hOY
      rw [hhi] at hat
      obtain ⟨g, hg⟩ := HGf.out (by omega)
      have HA := Lib.hid (fun W (k : Kept wr W) => piece_apply ra mo sh AX AY AG N cX cY cG lo n hi' w0.heap.size g Ps (zeros N) Ps W (own_below hOX k.2.2) (own_below hOY k.2.2) HXY.out (hG9.below k.2.2) L1.out hg (fun b h => by have := far b h; have := HFG.out g 0 hg; omega) HGc.out hhi.symm (by omega) (by omega) hra hmo HPi.out HZi.out)
      obtain ⟨gk, ok, hak, ltk, hck⟩ := hK9.2 (by omega)
      have hlen : m < (blocksL N s).length := by rw [blocksL_length]; omega
      obtain ⟨v0, v1⟩ := rv_get (blocksL N s) m hlen
      rw [(List.getElem?_eq_some_iff.1 hat).2] at v0 v1
      have kc0 := hck _ _ v0
      have kc1 := hck _ _ v1
      rw [← Nat.add_assoc] at kc1
      have e2 : lo ≤ hi' := by omega
      have e3 : hi' - lo = n := by omega
      have e4 : hi' ≤ cG := by have := HGc.out; omega
      have e5 : hi' ≤ N := by omega
      have i1 : m < cnt N s := by omega
      have c0 : wr.cell? ⟨w.heap.size, 0, none⟩ = some (.int .i64 ra) := hR9.cell 0
      have c1 : wr.cell? ⟨w.heap.size, 1, none⟩ = some (.int .i64 mo) := hR9.cell 1
      have c2 : wr.cell? ⟨w.heap.size, 2, none⟩ = some (.int .i64 sh) := hR9.cell 2
      have x0 : wr.cell? ⟨w3.heap.size, 0, none⟩ = some (.slice AX N cX) := hX9.cell 0
      have x1 : wr.cell? ⟨w3.heap.size, 1, none⟩ = some (.slice AY N cY) := hX9.cell 1
      have b1 := hR9.lt
      have b2 := hX9.lt
      have HB := Lib.hid hB
      have HLo := Lib.hid hlo
      have HAK := Lib.hid hak
      obtain ⟨A', hA'⟩ : ∃ A', (if cG = lo then AG else Option.map (fun x => x.add lo) AG) = A' := ⟨_, rfl⟩
      rw [hA'] at HA
      subst hak
      clear hat hmN hst hlo hn hhi hOX hOY hg hck hlen v0 v1 hR9 hX9 hP9 hG9 hK9 hB far h0 HAK
      go_wp2_with fail
      have KC := fun (u : KW wr) b o h => KW.cells u b o h
      refine wp_region_mix' wr [] [0, 1, 2, 3, 4, 5, 6, 7, 8, 9, 10, 11, 12, 13, 14, 15, 16, 17] 18 [19] (by kernel_rfl) (by kernel_rfl) (by kernel_rfl) (Kept.of (Below.refl _ _)) ?_
      simp only [PureW, List.filterMap_cons, List.filterMap_nil, List.getElem?_cons_succ, List.getElem?_cons_zero]
      change wpQuiet _ _ _ _ (_ :: _ :: _ :: _ :: _ :: _ :: _ :: _ :: _ :: _ :: _ :: _ :: _ :: _ :: _ :: _ :: _ :: _ :: []) _
      iterate 18 (go_big_quiet_step (fail))
      refine wpQuiet_nil ?_
      rintro ⟨w9, k9⟩
      change wpList _ _ _ (_ :: _ :: []) _ _
      dsimp only
      clear KC
      go_wp2_with fail
      ((with_reducible refine (HA.out _ k9).mono ?_); rintro e wt ⟨rfl, hP5, hM5, hB5⟩)
      have HP5 := Lib.hid hP5
      have HM5 := Lib.hid hM5
      have HB5 := Lib.hid ((But.of_below (StB2 AX AY N N cX cY) k9.2.2).trans hB5)
      clear hP5 hM5 hB5 k9 HA c0 c1 c2 x0 x1 kc0 kc1
      go_wp2_with fail
      refine NoPanic.normal ?_
      go_wp2
      go_roundw
      case rel => exact ⟨m, (m : Int) - 1, by omega, Lib.hid rfl, by go_num, by rw [HLo.out, Nat.min_eq_left (by omega)]; exact HP5.out, by rw [HLo.out, Nat.min_eq_left (by omega)]; exact HM5.out, HB.out.trans HB5.out⟩
      case measure => simp [intOf]
    · obtain rfl : i = 0 := by have := hz'.out; omega
      obtain rfl : z' = -1 := by have := hz'.out; omega
      rw [Nat.zero_mul, Nat.zero_min, pieceP_zero] at hOX
      rw [Nat.zero_mul, Nat.zero_min, pieceM_zero] at hOY
      have HKr := Lib.hid (HK8.out.trans (hB.below HK8.out.size (fun i h => by have := far i h; omega)))
      have qP := HRP8.out.but hB (fun b o e h0 h => by have := far _ h; have := HFP.out b o e; omega)
      have qM := HRM8.out.but hB (fun b o e h0 h => by have := far _ h; have := HFM.out b o e; omega)
      have c0 : wr.cell? ⟨w.heap.size, 0, none⟩ = some (.int .i64 ra) := hR9.cell 0
      have c1 : wr.cell? ⟨w.heap.size, 1, none⟩ = some (.int .i64 mo) := hR9.cell 1
      have c2 : wr.cell? ⟨w.heap.size, 2, none⟩ = some (.int .i64 sh) := hR9.cell 2
      have b1 := hR9.lt
      have HX9 := Lib.hid hX9
      have HP9 := Lib.hid hP9
      have QX := Lib.hid (Rd.of_own hOX)
      have QY := Lib.hid (Rd.of_own hOY)
      have QP := Lib.hid qP
      have QM := Lib.hid qM
      have LP : Hid ((nextP ra mo sh Ps (zeros N) Ps).length = N) := Lib.hid (by rw [nextP_length, L1.out])
      have LM : Hid ((nextM mo sh (zeros N) Ps).length = N) := Lib.hid (by rw [nextM_length, LZ.out])
      have M6 := Lib.hid (fun W => refStart13_any A N c W (by omega))
      have HN := Lib.hid (fun (Zr : Option Addr) (cZ : Nat) (W : World) (k : Kept wr W) (hZ : Rd W 1 Zr N (iv (zeros N))) => refNext13_some ra mo sh A Zr A N c cZ c Ps (zeros N) Ps W L1.out LZ.out L1.out (R1.out.below ((Kept.of HKr.out).call k.2.2).2.2) hZ (R1.out.below ((Kept.of HKr.out).call k.2.2).2.2) (by omega) hra hmo HPi.out HZi.out)
      have ks0 : Kept wr (wr.alloc (.cells #[.slice none 0 0, .slice none 0 0] 26)).drew := ((Kept.of (Below.refl _ wr)).alloc _).drew
      clear hOX hOY hB qP qM hR9 hX9 hP9 hG9 hK9 far h0
      go_wp2_with fail
      go_cut [13, 14] (fun s13 s14 wc => ∃ (u : Nat) (AQ AR : Option Addr) (cQ cR : Nat), s13 = .pointer (some ⟨u, 0, none⟩) ∧ s14 = .bool true ∧ wr.heap.size ≤ u ∧ Kept wr wc ∧ Blk wc u 26 #[.slice AQ N cQ, .slice AR N cR] ∧ Rd wc 1 AQ N (iv (nextP ra mo sh Ps (zeros N) Ps)) ∧ Rd wc 1 AR N (iv (nextM mo sh (zeros N) Ps)))
      case first =>
        go_region_held3 (fun w' => Kept wr w') (first | exact kk | exact kk.alloc _ | exact kst | exact ks0 | exact Kept.start wr) (first
          | (go_at_call 35; (with_reducible refine (M6.out wr.drew).mono ?_); rintro e w1 ⟨Zr, cZ, rfl, hZ, hb⟩; have kk := (Kept.start wr).call hb; have HZ := Lib.hid hZ; clear hZ hb)
          | (go_at_call 35; (with_reducible refine (M6.out (wr.alloc (.cells #[.slice none 0 0, .slice none 0 0] 26)).drew).mono ?_); rintro e w1 ⟨Zr, cZ, rfl, hZ, hb⟩; have kk := ks0.call hb; have HB1 := Lib.hid ((Blk.new wr 26 #[.slice none 0 0, .slice none 0 0]).drew.kept hb); have hu := Nat.le_refl wr.heap.size; have HZ := Lib.hid hZ; clear hZ hb)
          | (go_at_call 18; (with_reducible refine (HN.out _ _ _ kk HZ.out).mono ?_); rintro e w2 ⟨AQ, cQ, AR, cR, rfl, hQ, hR, hb⟩; have HB2 := Lib.hid (HB1.out.kept hb); replace kk := kk.call hb; have d0 := HB2.out.cell 0; have d1 := HB2.out.cell 1; have f0 := HB2.out.frozen 0; have f1 := HB2.out.frozen 1; have HOQ := Lib.hid hQ; have HOR := Lib.hid hR; have HST := Lib.hid (store2' HB2.out (.slice AQ N cQ) (.slice AR N cR)); have kst := Kept.of (below_gr kk.2.2 kk.2.1 HST.out.1 hu); clear hQ hR hb)
          | (go_at_call 18; (with_reducible refine (HN.out _ _ _ kk HZ.out).mono ?_); rintro e w2 ⟨AQ, cQ, AR, cR, rfl, hQ, hR, hb⟩; replace kk := kk.call hb; have HOQ := Lib.hid hQ; have HOR := Lib.hid hR; clear hQ hR hb)
          | (go_at_call 18; (with_reducible refine (HN.out _ _ (w1.alloc (.cells #[.slice none 0 0, .slice none 0 0] 26)) (kk.alloc _) (HZ.out.below ((Below.refl _ _).alloc (Nat.le_refl _) _))).mono ?_); rintro e w2 ⟨AQ, cQ, AR, cR, rfl, hQ, hR, hb⟩; have HB2 := Lib.hid ((Blk.new w1 26 #[.slice none 0 0, .slice none 0 0]).kept hb); have hu := kk.2.1; replace kk := (kk.alloc (.cells #[.slice none 0 0, .slice none 0 0] 26)).call hb; have d0 := HB2.out.cell 0; have d1 := HB2.out.cell 1; have f0 := HB2.out.frozen 0; have f1 := HB2.out.frozen 1; have HOQ := Lib.hid hQ; have HOR := Lib.hid hR; have HST := Lib.hid (store2' HB2.out (.slice AQ N cQ) (.slice AR N cR)); have kst := Kept.of (below_gr kk.2.2 kk.2.1 HST.out.1 hu); clear hQ hR hb))
        all_goals go_wp2_with fail
        all_goals go_meet
        all_goals first
          | exact ⟨_, _, _, _, _, rfl, rfl, kk.2.1, kk.alloc _, Blk.new _ _ _, (Rd.of_own HOQ.out).below ((Below.refl _ _).alloc (Nat.le_refl _) _), (Rd.of_own HOR.out).below ((Below.refl _ _).alloc (Nat.le_refl _) _)⟩
          | exact ⟨_, _, _, _, _, rfl, rfl, hu, kst, HST.out.2, Rd.of_own (HOQ.out.kept HST.out.1 (.inr (own_blk_ne HOQ.out HB2.out (by decide)))), Rd.of_own (HOR.out.kept HST.out.1 (.inr (own_blk_ne HOR.out HB2.out (by decide))))⟩
      case rest =>
        rename World => wq
        obtain ⟨u, AQ, AR, cQ, cR, rfl, rfl, hu, kk, hbu, hQ, hR⟩ := hcut
        have HKq := Lib.hid ((Kept.of HKr.out).call kk.2.2).2.2
        have hXq := HX9.out.kept kk.2.2
        have hPq := HP9.out.kept kk.2.2
        have x0 : wq.cell? ⟨w3.heap.size, 0, none⟩ = some (.slice AX N cX) := hXq.cell 0
        have x1 : wq.cell? ⟨w3.heap.size, 1, none⟩ = some (.slice AY N cY) := hXq.cell 1
        have p0 : wq.cell? ⟨w6.heap.size, 0, none⟩ = some (.slice AP N cP) := hPq.cell 0
        have p1 : wq.cell? ⟨w6.heap.size, 1, none⟩ = some (.slice AM N cM) := hPq.cell 1
        have u0 : wq.cell? ⟨u, 0, none⟩ = some (.slice AQ N cQ) := hbu.cell 0
        have u1 : wq.cell? ⟨u, 1, none⟩ = some (.slice AR N cR) := hbu.cell 1
        have b2 := hXq.lt
        have b3 := hPq.lt
        have b4 := hbu.lt
        have qX := QX.out.below kk.2.2
        have qY := QY.out.below kk.2.2
        have qP := QP.out.below kk.2.2
        have qM := QM.out.below kk.2.2
        have S1 := Lib.hid (fun (u : KW wq) => kept_true2 (sgdSame_any AX AY AP AM N N N N cX cY cP cM _ _ _ _ u.w LP.out LM.out LP.out LM.out (qX.kept u.h) (qY.kept u.h) (qP.kept u.h) (qM.kept u.h) (by omega) (by omega) (by omega) (by omega)))
        have S2 := Lib.hid (fun (u : KW wq) => kept_true2 (refSame13_any AX AY AQ AR N N N N cX cY cQ cR _ _ _ _ u.w LP.out LM.out LP.out LM.out (qX.kept u.h) (qY.kept u.h) (hQ.kept u.h) (hR.kept u.h) (by omega) (by omega) (by omega) (by omega)))
        clear hQ hR hbu hXq hPq qX qY qP qM kk c0 c1 c2 M6 HN ks0
        go_wp2_with fail
        have KC := fun (u : KW wq) b o h => KW.cells u b o h
        refine wp_region_kept wq (by kernel_rfl) (by kernel_rfl) (Kept.of (Below.refl _ _)) ?_
        repeat (go_big_quiet_step (first | (go_at_call 14; with_reducible exact kept_call (alive13_any _)) | (go_at_call 20; with_reducible exact kept_call (back13_any _ _ _ _ _ _ _)) | (go_at_call 36; with_reducible exact kept_call (S1.out _)) | (go_at_call 19; with_reducible exact kept_call (S2.out _))))
        refine wpQuiet_nil ?_
        rintro _ ⟨⟨w9, k9⟩, rfl⟩
        clear KC
        go_wp2
        go_ret
        exact ⟨rfl, HKq.out.trans (k9.2.2.mono HKq.out.size)⟩

theorem sgdPieces_any (ra mo sh : Int) (A : Option Addr) (N c : Nat) (Ps : List Int) (cb : Int) (w : World) (hra : In1 ra) (hmo : In1 mo) (hN : N ≤ 9223372036854775807) (h1 : Ps.length = N) (r1 : Rd w 1 A N (iv Ps)) (hPi : AllIn Ps) (hcb : 0 ≤ cb ∧ cb ≤ 255) :
    Calls Try.prog 7 #[.agg #[.int .i64 ra, .int .i64 mo, .int .i64 sh], .slice A N c, .int .u8 cb] w fun e w' => e = .returned (.bool true) ∧ Below w.heap.size w w' := by
  obtain ⟨k, rfl⟩ := Int.eq_ofNat_of_zero_le hcb.1
  cases hf : fewL [N]
  · exact sgdPieces_far ra mo sh k A N c w hN hf
  · exact sgdPieces_near ra mo sh k _ A N c Ps w h1 r1 hf hra hmo hPi rfl (by omega)

end Go.Proofs.Ytnnphileeeaibaa
