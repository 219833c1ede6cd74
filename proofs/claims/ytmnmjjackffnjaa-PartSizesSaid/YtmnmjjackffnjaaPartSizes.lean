/-
  PartSizes: the sizes of an even division differ by 1 at most, greater ones come first, each index is in exactly one range: plain laws and the walk.
-/
import Derived.Test.YtmnmjjackffnjaaPartEvens
namespace Go.Proofs.Ytmnmjjackffnjaa
set_option linter.unusedVariables false
set_option linter.unusedSimpArgs false
open Go.RowKit

/-- Ranges that follow each other: an index before all of them that are left is in none; one inside range i is found there. -/
theorem of_chain (f : Nat → Nat) (hf : ∀ i, f i ≤ f (i + 1)) (l : List (Int × Int)) (h : ∀ i x, l[i]? = some x → x = ((f i : Int), (f (i + 1) : Int))) (j i : Nat) (q : Int) (hi : i < l.length) (h1 : (f i : Int) ≤ q) (h2 : q < (f (i + 1) : Int)) :
    ∀ d k, k + d = i → ofFrom q (l.drop k) k = i := by
  intro d
  induction d with
  | zero =>
    intro k hk
    obtain rfl : k = i := by omega
    rw [ofFrom_step q l k (f k) (f (k + 1)) k (by rw [List.getElem?_eq_getElem hi, h k _ (List.getElem?_eq_getElem hi)]), if_pos ⟨h1, h2⟩]
  | succ d ih =>
    intro k hk
    have hlt : k < l.length := by omega
    have hm : f (k + 1) ≤ f i := by
      have : ∀ e, f (k + 1) ≤ f (k + 1 + e) := by
        intro e
        induction e with
        | zero => exact Nat.le_refl _
        | succ e ih => exact Nat.le_trans ih (hf _)
      have := this (i - (k + 1))
      rwa [show k + 1 + (i - (k + 1)) = i by omega] at this
    rw [ofFrom_step q l k (f k) (f (k + 1)) k (by rw [List.getElem?_eq_getElem hlt, h k _ (List.getElem?_eq_getElem hlt)]), if_neg (by omega)]
    have := ih (k + 1) (by omega)
    simpa using this

theorem of_beyond (f : Nat → Nat) (l : List (Int × Int)) (h : ∀ i x, l[i]? = some x → x = ((f i : Int), (f (i + 1) : Int))) (q : Int) (hq : ∀ i, i < l.length → ¬ ((f i : Int) ≤ q ∧ q < (f (i + 1) : Int))) :
    ∀ d k, k + d = l.length → ofFrom q (l.drop k) k = -1 := by
  intro d
  induction d with
  | zero => intro k hk; exact ofFrom_end _ _ _ _ (by omega)
  | succ d ih =>
    intro k hk
    have hlt : k < l.length := by omega
    rw [ofFrom_step q l k (f k) (f (k + 1)) k (by rw [List.getElem?_eq_getElem hlt, h k _ (List.getElem?_eq_getElem hlt)]), if_neg (hq k hlt)]
    have := ih (k + 1) (by omega)
    simpa using this

theorem even_is (n k : Nat) : ∀ i x, (evenL n k)[i]? = some x → x = ((bnd n k i : Int), (bnd n k (i + 1) : Int)) := by
  intro i x hx
  have hi : i < k := by have := (List.getElem?_eq_some_iff.1 hx).1; rw [evenL_length] at this; exact this
  rw [even_at n k i hi] at hx
  injection hx with hx
  exact hx.symm
theorem of_even (n k i : Nat) (q : Int) (hi : i < k) (h1 : (bnd n k i : Int) ≤ q) (h2 : q < (bnd n k (i + 1) : Int)) : ofL q (evenL n k) = i :=
  of_chain (bnd n k) (fun i => bnd_mono n k i (i + 1) (by omega)) (evenL n k) (even_is n k) 0 i q (by rw [evenL_length]; exact hi) h1 h2 i 0 (by omega)
theorem of_even_none (n k : Nat) (hk : 1 ≤ k) (q : Int) (h : q < 0 ∨ n ≤ q) : ofL q (evenL n k) = -1 :=
  of_beyond (bnd n k) (evenL n k) (even_is n k) q (fun i hi => by
    rw [evenL_length] at hi
    have h1 := bnd_le n k (i + 1) hk (by omega)
    omega) k 0 (by rw [evenL_length]; omega)
theorem dealt_two (n k i : Nat) : dealt n k i = n / k ∨ dealt n k i = n / k + 1 := by unfold dealt; split <;> omega
theorem dealt_mono (n k i : Nat) : dealt n k (i + 1) ≤ dealt n k i := by unfold dealt; split <;> split <;> omega

theorem size_of (x y d : Nat) (w : World) (hy : y = x + d) (hx : x ≤ 1000000) (hd : d ≤ 1000000) :
    Calls Try.prog 35 #[.agg #[.int .i64 x, .int .i64 y]] w fun e w' => e = .returned (.int .i64 d) ∧ Below w.heap.size w w' := by
  have h1 := size_any x y w (by omega) (by omega) (by omega) (by omega)
  rwa [show max ((y : Int) - (x : Int)) 0 = (d : Int) by omega] at h1

set_option maxHeartbeats 2000000 in
theorem partSizes_any (n k : Nat) (w : World) (hn : n ≤ 65535) (hk : k ≤ 255) :
    Calls Try.prog 7 #[.int .u16 n, .int .u8 k] w fun e w' => e = .returned (.bool true) ∧ Below w.heap.size w w' := by
  go_enter Try.func7, Try.ntmps7
  go_wp2_with fail
  rw [show ((n : Int) % 500) = ((n % 500 : Nat) : Int) by simp, show (1 + (k : Int)) = ((1 + k : Nat) : Int) by omega]
  obtain ⟨a, ha⟩ : ∃ a, n % 500 = a := ⟨_, rfl⟩
  obtain ⟨b, hb⟩ : ∃ b, 1 + k = b := ⟨_, rfl⟩
  rw [ha, hb]
  have ha2 : a ≤ 499 := by omega
  have hb1 : 1 ≤ b := by omega
  have hb2 : b ≤ 256 := by omega
  clear ha hb
  have HL := Lib.hid (evenL_length a b)
  have hq : a / b ≤ a := Nat.div_le_self _ _
  have hqi : (a : Int) / (b : Int) = ((a / b : Nat) : Int) := by simp
  have hdt := dealt_two a b
  generalize a / b = q at *
  have d0 : ((b : Int) != (b : Int)) = false := by simp
  ((with_reducible refine (even_any a b _ (by omega) (by omega) (by omega)).mono ?_); rintro e W ⟨A, cap, rfl, hown, hbW⟩)
  have HR := Lib.hid (Rd.of_own hown)
  clear hown
  go_wp2_with fail
  go_loopw [25] (fun c wr => ∃ i : Nat, i ≤ b ∧ c = .int .i64 i ∧ Below W.heap.size W wr) (fun c _ => b - (intOf c).toNat)
  case atStart => exact ⟨0, by omega, rfl, Below.refl _ _⟩
  case round =>
    obtain ⟨i, hi, rfl, hb⟩ := hrel
    by_cases hlt : i < b
    · obtain ⟨g, o, x, y, rfl, hbl, hx, c1, c2⟩ := rd_at HL.out (HR.out.below hb) hlt
      obtain ⟨rfl, rfl⟩ := Prod.mk.injEq .. ▸ (even_is a b i _ hx)
      have hs := bnd_succ a b i
      have hle := bnd_le a b (i + 1) hb1 (by omega)
      have htwo := hdt i
      have HO1 := Lib.hid (fun q h1 h2 => of_even a b i q hlt h1 h2)
      generalize hxx : bnd a b i = x at *
      generalize hyy : bnd a b (i + 1) = y at *
      generalize hdd : dealt a b i = d at *
      have hbl' : g < wr.heap.size + 1 := by omega
      have hkw := fun (u : KW (wr.alloc (.cells #[.int .i64 x, .int .i64 y] 30))) b o h => KW.cells u b o h
      have hxy : x ≤ y := by omega
      have hdy : d ≤ y := by omega
      have HS := Lib.hid hs
      clear hs
      go_wp2_with fail
      by_cases hi0 : i = 0
      · have g0 : decide ((0 : Int) < (i : Int)) = false := decide_eq_false (by omega)
        clear hxx hyy hdd
        rcases htwo with hm | hm
        · subst hm
          refine wp_region_kept (wr.alloc (.cells #[.int .i64 x, .int .i64 y] 30)) (by kernel_rfl) (by kernel_rfl) (Kept.of (Below.refl _ _)) ?_
          repeat (go_big_quiet_step ((go_at_call 35; exact kept_call (size_of _ _ _ _ HS.out (by omega) (by omega)))))
          refine wpQuiet_nil ?_
          rintro _ ⟨⟨w2, k2⟩, rfl⟩
          clear hkw
          go_wp2_with fail
          ((with_reducible refine (size_of x y d _ HS.out (by omega) (by omega)).mono ?_); rintro e w3 ⟨rfl, hb3⟩)
          have k3 := k2.call hb3
          clear k2 hb3
          have hz : Below W.heap.size W w3 := (hb.alloc hb.size _).trans (k3.2.2.mono (by have := hb.size; simp; omega))
          by_cases hd0 : d = 0
          · have g1 : decide ((0 : Int) < (d : Int)) = false := decide_eq_false (by omega)
            go_wp2
            go_roundw
            case rel => exact ⟨i + 1, by omega, by go_num, hz⟩
            case measure => simp [intOf]; omega
          · have g1 : (0 : Int) < (d : Int) := by omega
            have g2 : x + d = y := HS.out.symm
            have o1 := HO1.out x (by omega) (by omega)
            have o2 := HO1.out ((y : Int) - 1) (by omega) (by omega)
            have O1 := Lib.hid o1
            have O2 := Lib.hid o2
            clear o1 o2 g2
            go_wp2_with fail
            ((with_reducible refine (of_any x _ b cap (evenL a b) _ HL.out (((HR.out.below hb).alloc _).kept k3) (by omega)).mono ?_); rintro e w4 ⟨rfl, hb4⟩)
            rw [O1.out]
            have k4 := k3.call hb4
            clear k3 hb4
            go_wp2_with fail
            ((with_reducible refine (of_any ((y : Int) - 1) _ b cap (evenL a b) _ HL.out (((HR.out.below hb).alloc _).kept k4) (by omega)).mono ?_); rintro e w5 ⟨rfl, hb5⟩)
            rw [O2.out]
            have k5 := k4.call hb5
            clear k4 hb5
            have hz2 : Below W.heap.size W w5 := (hb.alloc hb.size _).trans (k5.2.2.mono (by have := hb.size; simp; omega))
            go_wp2
            go_roundw
            case rel => exact ⟨i + 1, by omega, by go_num, hz2⟩
            case measure => simp [intOf]; omega
        · have n1 : ((d : Int) != (q : Int)) = true := by simp; omega
          have n2 : ((d : Int) != (q : Int) + 1) = false := by simp; omega
          clear hm
          refine wp_region_kept (wr.alloc (.cells #[.int .i64 x, .int .i64 y] 30)) (by kernel_rfl) (by kernel_rfl) (Kept.of (Below.refl _ _)) ?_
          repeat (go_big_quiet_step ((go_at_call 35; exact kept_call (size_of _ _ _ _ HS.out (by omega) (by omega)))))
          refine wpQuiet_nil ?_
          rintro _ ⟨⟨w2, k2⟩, rfl⟩
          clear hkw
          go_wp2_with fail
          ((with_reducible refine (size_of x y d _ HS.out (by omega) (by omega)).mono ?_); rintro e w3 ⟨rfl, hb3⟩)
          have k3 := k2.call hb3
          clear k2 hb3
          have hz : Below W.heap.size W w3 := (hb.alloc hb.size _).trans (k3.2.2.mono (by have := hb.size; simp; omega))
          by_cases hd0 : d = 0
          · have g1 : decide ((0 : Int) < (d : Int)) = false := decide_eq_false (by omega)
            go_wp2
            go_roundw
            case rel => exact ⟨i + 1, by omega, by go_num, hz⟩
            case measure => simp [intOf]; omega
          · have g1 : (0 : Int) < (d : Int) := by omega
            have g2 : x + d = y := HS.out.symm
            have o1 := HO1.out x (by omega) (by omega)
            have o2 := HO1.out ((y : Int) - 1) (by omega) (by omega)
            have O1 := Lib.hid o1
            have O2 := Lib.hid o2
            clear o1 o2 g2
            go_wp2_with fail
            ((with_reducible refine (of_any x _ b cap (evenL a b) _ HL.out (((HR.out.below hb).alloc _).kept k3) (by omega)).mono ?_); rintro e w4 ⟨rfl, hb4⟩)
            rw [O1.out]
            have k4 := k3.call hb4
            clear k3 hb4
            go_wp2_with fail
            ((with_reducible refine (of_any ((y : Int) - 1) _ b cap (evenL a b) _ HL.out (((HR.out.below hb).alloc _).kept k4) (by omega)).mono ?_); rintro e w5 ⟨rfl, hb5⟩)
            rw [O2.out]
            have k5 := k4.call hb5
            clear k4 hb5
            have hz2 : Below W.heap.size W w5 := (hb.alloc hb.size _).trans (k5.2.2.mono (by have := hb.size; simp; omega))
            go_wp2
            go_roundw
            case rel => exact ⟨i + 1, by omega, by go_num, hz2⟩
            case measure => simp [intOf]; omega
      · have g0 : 0 < i := by omega
        obtain ⟨_, _, x1, y1, he, hbl1, hx1, c3, c4⟩ := rd_at HL.out (HR.out.below hb) (show i - 1 < b by omega)
        injection he with he
        injection he with he1 he2
        subst he1 he2
        obtain ⟨rfl, rfl⟩ := Prod.mk.injEq .. ▸ (even_is a b (i - 1) _ hx1)
        clear hx1 hbl1
        have hs' := bnd_succ a b (i - 1)
        have hmono := dealt_mono a b (i - 1)
        rw [show i - 1 + 1 = i by omega] at hs' hmono c4
        rw [hxx] at hs' c4
        rw [hdd] at hmono
        generalize bnd a b (i - 1) = x' at *
        generalize dealt a b (i - 1) = d' at *
        have j1 : IntKind.i64.wrap ((i : Int) - 1) = (i : Int) - 1 := IntWalk.i64_in _ (by omega)
        have j2 : ((i : Int) - 1).toNat = i - 1 := by omega
        have j3 : 0 ≤ (i : Int) - 1 := by omega
        have j4 : (i : Int) - 1 < (b : Int) := by omega
        have j5 : decide ((d' : Int) < (d : Int)) = false := decide_eq_false (by omega)
        have j6 : x' ≤ x := by omega
        have j7 : d' ≤ x := by omega
        have HS' := Lib.hid hs'
        clear hxx hyy hdd hs'
        rcases htwo with hm | hm
        · subst hm
          refine wp_region_kept (wr.alloc (.cells #[.int .i64 x, .int .i64 y] 30)) (by kernel_rfl) (by kernel_rfl) (Kept.of (Below.refl _ _)) ?_
          repeat (go_big_quiet_step (first | (go_at_call 35; (with_reducible exact kept_call (size_of x y d _ HS.out (by omega) (by omega)))) | (go_at_call 35; (with_reducible exact kept_call (size_of x' x d' _ HS'.out (by omega) (by omega))))))
          refine wpQuiet_nil ?_
          rintro _ ⟨⟨w2, k2⟩, rfl⟩
          clear hkw
          clear j1 j2 j3 j4 j5 c3 c4
          go_wp2_with fail
          ((with_reducible refine (size_of x y d _ HS.out (by omega) (by omega)).mono ?_); rintro e w3 ⟨rfl, hb3⟩)
          have k3 := k2.call hb3
          clear k2 hb3
          have hz : Below W.heap.size W w3 := (hb.alloc hb.size _).trans (k3.2.2.mono (by have := hb.size; simp; omega))
          by_cases hd0 : d = 0
          · have g1 : decide ((0 : Int) < (d : Int)) = false := decide_eq_false (by omega)
            go_wp2
            go_roundw
            case rel => exact ⟨i + 1, by omega, by go_num, hz⟩
            case measure => simp [intOf]; omega
          · have g1 : (0 : Int) < (d : Int) := by omega
            have g2 : x + d = y := HS.out.symm
            have o1 := HO1.out x (by omega) (by omega)
            have o2 := HO1.out ((y : Int) - 1) (by omega) (by omega)
            have O1 := Lib.hid o1
            have O2 := Lib.hid o2
            clear o1 o2 g2
            go_wp2_with fail
            ((with_reducible refine (of_any x _ b cap (evenL a b) _ HL.out (((HR.out.below hb).alloc _).kept k3) (by omega)).mono ?_); rintro e w4 ⟨rfl, hb4⟩)
            rw [O1.out]
            have k4 := k3.call hb4
            clear k3 hb4
            go_wp2_with fail
            ((with_reducible refine (of_any ((y : Int) - 1) _ b cap (evenL a b) _ HL.out (((HR.out.below hb).alloc _).kept k4) (by omega)).mono ?_); rintro e w5 ⟨rfl, hb5⟩)
            rw [O2.out]
            have k5 := k4.call hb5
            clear k4 hb5
            have hz2 : Below W.heap.size W w5 := (hb.alloc hb.size _).trans (k5.2.2.mono (by have := hb.size; simp; omega))
            go_wp2
            go_roundw
            case rel => exact ⟨i + 1, by omega, by go_num, hz2⟩
            case measure => simp [intOf]; omega
        · have n1 : ((d : Int) != (q : Int)) = true := by simp; omega
          have n2 : ((d : Int) != (q : Int) + 1) = false := by simp; omega
          clear hm
          refine wp_region_kept (wr.alloc (.cells #[.int .i64 x, .int .i64 y] 30)) (by kernel_rfl) (by kernel_rfl) (Kept.of (Below.refl _ _)) ?_
          repeat (go_big_quiet_step (first | (go_at_call 35; (with_reducible exact kept_call (size_of x y d _ HS.out (by omega) (by omega)))) | (go_at_call 35; (with_reducible exact kept_call (size_of x' x d' _ HS'.out (by omega) (by omega))))))
          refine wpQuiet_nil ?_
          rintro _ ⟨⟨w2, k2⟩, rfl⟩
          clear hkw
          clear j1 j2 j3 j4 j5 c3 c4
          go_wp2_with fail
          ((with_reducible refine (size_of x y d _ HS.out (by omega) (by omega)).mono ?_); rintro e w3 ⟨rfl, hb3⟩)
          have k3 := k2.call hb3
          clear k2 hb3
          have hz : Below W.heap.size W w3 := (hb.alloc hb.size _).trans (k3.2.2.mono (by have := hb.size; simp; omega))
          by_cases hd0 : d = 0
          · have g1 : decide ((0 : Int) < (d : Int)) = false := decide_eq_false (by omega)
            go_wp2
            go_roundw
            case rel => exact ⟨i + 1, by omega, by go_num, hz⟩
            case measure => simp [intOf]; omega
          · have g1 : (0 : Int) < (d : Int) := by omega
            have g2 : x + d = y := HS.out.symm
            have o1 := HO1.out x (by omega) (by omega)
            have o2 := HO1.out ((y : Int) - 1) (by omega) (by omega)
            have O1 := Lib.hid o1
            have O2 := Lib.hid o2
            clear o1 o2 g2
            go_wp2_with fail
            ((with_reducible refine (of_any x _ b cap (evenL a b) _ HL.out (((HR.out.below hb).alloc _).kept k3) (by omega)).mono ?_); rintro e w4 ⟨rfl, hb4⟩)
            rw [O1.out]
            have k4 := k3.call hb4
            clear k3 hb4
            go_wp2_with fail
            ((with_reducible refine (of_any ((y : Int) - 1) _ b cap (evenL a b) _ HL.out (((HR.out.below hb).alloc _).kept k4) (by omega)).mono ?_); rintro e w5 ⟨rfl, hb5⟩)
            rw [O2.out]
            have k5 := k4.call hb5
            clear k4 hb5
            have hz2 : Below W.heap.size W w5 := (hb.alloc hb.size _).trans (k5.2.2.mono (by have := hb.size; simp; omega))
            go_wp2
            go_roundw
            case rel => exact ⟨i + 1, by omega, by go_num, hz2⟩
            case measure => simp [intOf]; omega
    · go_wp2_with fail
      ((with_reducible refine (alive04_any _).mono ?_); rintro e w1 ⟨rfl, h1⟩)
      have k1 := (Kept.of hb).call h1
      clear h1
      go_wp2_with fail
      ((with_reducible refine (back04_any A b cap (evenL a b) _ HL.out (HR.out.kept k1) (by omega)).mono ?_); rintro e w2 ⟨A2, cap2, rfl, hown2, h2⟩)
      have R2 := Lib.hid (Rd.of_own hown2)
      have k2 := k1.call h2
      clear h2 k1 hown2
      go_wp2_with fail
      ((with_reducible refine (refCovers_any a A2 b cap2 (evenL a b) _ HL.out R2.out (by omega)).mono ?_); rintro e w3 ⟨rfl, h3⟩)
      rw [covers_even a b hb1]
      have k3 := k2.call h3
      clear h3 k2
      go_wp2_with fail
      ((with_reducible refine (of_any a A b cap (evenL a b) _ HL.out (HR.out.kept k3) (by omega)).mono ?_); rintro e w4 ⟨rfl, h4⟩)
      rw [of_even_none a b hb1 a (by omega)]
      have k4 := k3.call h4
      clear h4 k3
      go_wp2_with fail
      ((with_reducible refine (of_any (-1) A b cap (evenL a b) _ HL.out (HR.out.kept k4) (by omega)).mono ?_); rintro e w5 ⟨rfl, h5⟩)
      rw [of_even_none a b hb1 (-1) (by omega)]
      have k5 := k4.call h5
      clear h5 k4
      go_wp2
      go_ret
      exact ⟨rfl, hbW.trans (k5.2.2.mono hbW.size)⟩

theorem partSizes_int (n k : Int) (w : World) (hn : 0 ≤ n ∧ n ≤ 65535) (hk : 0 ≤ k ∧ k ≤ 255) :
    Calls Try.prog 7 #[.int .u16 n, .int .u8 k] w fun e w' => e = .returned (.bool true) ∧ Below w.heap.size w w' := by
  obtain ⟨a, rfl⟩ := Int.eq_ofNat_of_zero_le hn.1
  obtain ⟨b, rfl⟩ := Int.eq_ofNat_of_zero_le hk.1
  exact partSizes_any a b w (by omega) (by omega)

end Go.Proofs.Ytmnmjjackffnjaa
