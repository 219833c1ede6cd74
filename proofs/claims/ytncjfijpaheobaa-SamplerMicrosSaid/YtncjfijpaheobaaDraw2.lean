/-
  Contracts of draw.Many, of the library functions it calls, and of the chapter's example.
-/
import Derived.Test.YtncjfijpaheobaaDraw
namespace Go.Proofs.Ytncjfijpaheobaa
set_option linter.unusedVariables false
set_option linter.unusedSimpArgs false
open Go.RowKit

theorem uone_int (x : Int) : ∀ u ∈ (#[Value.int .i64 x] : Array Value).toList, u.oneCell' = true := by
  intro u hu
  simp at hu
  subst hu
  rfl
theorem rd_new (w : World) (cs : Array Value) (t : TypeId) (n : Nat) (hl : cs.size = n) : Rd (w.alloc (.cells cs t)) 1 (some ⟨w.heap.size, 0, none⟩) n cs.toList := by
  refine ⟨by simp [hl], fun h => ⟨w.heap.size, 0, rfl, by simp, fun j u hu => ?_⟩⟩
  have := (Blk.new w t cs).cell (0 + j)
  rw [this, Nat.zero_add, ← hu]
  simp

/-- Some number is below 1. -/
def anyLow (bs : List Int) : Bool := bs.any fun x => decide (x < 1)
theorem low_here {bs : List Int} {k : Nat} {x : Int} (h : bs[k]? = some x) (hx : x < 1) : anyLow bs = true := by
  unfold anyLow
  rw [List.any_eq_true]
  exact ⟨x, List.mem_of_getElem? h, by simpa using hx⟩
theorem low_none {bs : List Int} {n : Nat} (hl : bs.length = n) (h : ∀ j x, j < n → bs[j]? = some x → 1 ≤ x) : anyLow bs = false := by
  unfold anyLow
  rw [List.any_eq_false]
  intro x hx
  obtain ⟨i, hi, rfl⟩ := List.mem_iff_getElem.1 hx
  have := h i _ (by omega) (List.getElem?_eq_getElem hi)
  simp; omega
def IdxRet (bs : List Int) (w : World) (e : Ending) (w' : World) : Prop := ∃ v : Int, e = .returned (.int .i64 v) ∧ decide (0 ≤ v) = anyLow bs ∧ w = w'

set_option maxHeartbeats 400000 in
theorem indexFunc_any (A : Option Addr) (n cap : Nat) (bs : List Int) (w : World) (hl : bs.length = n) (h : Rd w 1 A n (iv bs)) (hn : n ≤ 9223372036854775807) :
    Calls Try.prog 69 #[.slice A n cap, .func (.func 53) #[] #[]] w (IdxRet bs w) := by
  have HL := Lib.hid hl
  have HR := Lib.hid h
  clear hl h
  go_enter Try.func69, Try.ntmps69
  go_wp2_with fail
  go_loop [8] (fun c => ∃ k : Nat, k ≤ n ∧ c = .int .i64 k ∧ Hid (∀ j x, j < k → bs[j]? = some x → 1 ≤ x)) (fun c => n - (intOf c).toNat)
  case atStart => exact ⟨0, by omega, rfl, Lib.hid (fun j x h => by omega)⟩
  case round =>
    obtain ⟨k, hk, rfl, he⟩ := hrel
    by_cases hlt : k < n
    · obtain ⟨b, o, x, rfl, hbl, hx, c1⟩ := iv_at HL.out HR.out hlt
      have HX := Lib.hid hx
      clear hx
      by_cases hlow : x < 1
      · go_wp2
        go_ret
        exact ⟨k, rfl, by rw [low_here HX.out hlow]; simp, rfl⟩
      · go_wp2
        go_round
        case rel =>
          refine ⟨k + 1, by omega, by go_num, Lib.hid (fun j y hj hy => ?_)⟩
          by_cases hjk : j < k
          · exact he.out j y hjk hy
          · obtain rfl : j = k := by omega
            rw [HX.out] at hy
            injection hy with hy
            omega
        case measure => simp [intOf]; omega
    · obtain rfl : k = n := by omega
      go_wp2
      go_ret
      exact ⟨-1, rfl, by rw [low_none HL.out he.out]; rfl, rfl⟩

set_option maxHeartbeats 400000 in
theorem containsFunc_any (A : Option Addr) (n cap : Nat) (bs : List Int) (w : World) (hl : bs.length = n) (h : Rd w 1 A n (iv bs)) (hn : n ≤ 9223372036854775807) :
    Calls Try.prog 52 #[.slice A n cap, .func (.func 53) #[] #[]] w fun e w' => e = .returned (.bool (anyLow bs)) ∧ w = w' := by
  have HL := Lib.hid hl
  have HR := Lib.hid h
  clear hl h
  go_enter Try.func52, Try.ntmps52
  go_wp2_with fail
  ((with_reducible refine (indexFunc_any A n cap bs _ HL.out HR.out hn).mono ?_); rintro e w1 ⟨v, rfl, hv, rfl⟩)
  have HV := Lib.hid hv
  clear hv
  go_wp2_with fail
  go_ret
  exact ⟨ret_bool HV.out, rfl⟩

/-- What Many draws. -/
def manyL (L : List Int) (k : Nat) (bs : List Int) : List Int := List.zipWith (fun x m => x % m) (L.drop k) bs
theorem manyL_length (L : List Int) (k : Nat) (bs : List Int) (h : bs.length ≤ L.length - k) : (manyL L k bs).length = bs.length := by
  simp [manyL]; omega
theorem manyL_get (L : List Int) (k : Nat) (bs : List Int) (j : Nat) (x m : Int) (hx : L[k + j]? = some x) (hm : bs[j]? = some m) : (manyL L k bs)[j]? = some (x % m) := by
  unfold manyL
  rw [List.getElem?_zipWith, List.getElem?_drop, hx, hm]
theorem iv_take_snoc (l : List Int) (k : Nat) (x : Int) (h : l[k]? = some x) : iv (l.take (k + 1)) = iv (l.take k) ++ [.int .i64 x] := by
  obtain ⟨hk, hx⟩ := List.getElem?_eq_some_iff.1 h
  rw [List.take_succ_eq_append_getElem hk, iv_append, hx]
  rfl

theorem many_nil (A : Option Addr) (n cap : Nat) (w : World) :
    Calls Try.prog 22 #[.pointer none, .slice A n cap] w fun e w' => e = .returned (.tuple #[.slice none 0 0, .bool false]) ∧ w = w' := by
  go_enter Try.func22, Try.ntmps22
  go_wp2_with fail
  go_ret2
  exact ⟨rfl, rfl⟩

set_option maxHeartbeats 400000 in
theorem many_none (b : Nat) (A B : Option Addr) (n cap k m d : Nat) (bs : List Int) (w : World) (h : Blk w b 87 #[.slice A n cap, .int .i64 k]) (hk : k ≤ n) (hn : n ≤ 9223372036854775807) (hl : bs.length = m) (hr : Rd w 1 B m (iv bs)) (hm : m ≤ 9223372036854775807)
    (hno : n - k < m ∨ anyLow bs = true) :
    Calls Try.prog 22 #[.pointer (some ⟨b, 0, none⟩), .slice B m d] w (Turned w b A n cap k (.tuple #[.slice none 0 0, .bool false])) := by
  have HB := Lib.hid h
  have HL := Lib.hid hl
  have HR := Lib.hid hr
  clear h hl hr
  by_cases hs : n - k < m
  · have d1 : decide ((n : Int) - (k : Int) < (m : Int)) = true := by simp; omega
    clear hno
    go_enter Try.func22, Try.ntmps22
    go_wp2_with fail
    ((with_reducible refine (left_any b A n cap k _ HB.out (by omega) hn).mono ?_); rintro e w1 ⟨rfl, q, rfl⟩)
    go_wp2_with fail
    go_ret2
    exact ⟨rfl, gr_drewN (World.grownBy.refl _ _) _, HB.out.drewN _⟩
  · have d1 : decide ((n : Int) - (k : Int) < (m : Int)) = false := by simp; omega
    have HN : Hid (anyLow bs = true) := Lib.hid (by rcases hno with h | h; exact absurd h hs; exact h)
    clear hno
    go_enter Try.func22, Try.ntmps22
    go_wp2_with fail
    ((with_reducible refine (left_any b A n cap k _ HB.out (by omega) hn).mono ?_); rintro e w1 ⟨rfl, q, rfl⟩)
    go_wp2_with fail
    ((with_reducible refine (containsFunc_any B m d bs _ HL.out (HR.out.drewN _) hm).mono ?_); rintro e w1 ⟨rfl, rfl⟩)
    rw [HN.out]
    go_wp2_with fail
    go_ret2
    exact ⟨rfl, gr_drewN (World.grownBy.refl _ _) _, HB.out.drewN _⟩

/-- Numbers that were drawn come back, and the stream's block alone has turned. -/
def ManyRet (w : World) (b : Nat) (A : Option Addr) (n cap k m : Nat) (l : List Int) (en : Ending) (w' : World) : Prop :=
  ∃ A' c', en = .returned (.tuple #[.slice A' m c', .bool true]) ∧ w'.ownsRow w.heap.size 3 1 (.slice A' m c') m (iv l) ∧ w.grownBy w' (some b) ∧ Blk w' b 87 #[.slice A n cap, .int .i64 k]

set_option maxHeartbeats 800000 in
theorem many_some (b : Nat) (A B : Option Addr) (n cap k m d : Nat) (L bs : List Int) (w : World) (h : Stm w b A n cap k L) (hn : n ≤ 10000000) (hl : bs.length = m) (hr : Rd w 1 B m (iv bs)) (hB : ∀ b' o, B = some ⟨b', o, none⟩ → 0 < m → b' ≠ b)
    (hfit : k + m ≤ n) (hlow : anyLow bs = false) (hbd : ∀ x ∈ bs, x ≤ 9223372036854775807) :
    Calls Try.prog 22 #[.pointer (some ⟨b, 0, none⟩), .slice B m d] w (ManyRet w b A n cap (k + m) m (manyL L k bs)) := by
  have HL := Lib.hid hl
  have HR := Lib.hid hr
  have HS := Lib.hid h
  have HN := Lib.hid hlow
  have HB := Lib.hid hB
  have HD := Lib.hid hbd
  have hblt := h.blk.lt
  have hkn := h.le
  have d1 : decide ((n : Int) - (k : Int) < (m : Int)) = false := by simp; omega
  have HM : Hid ((manyL L k bs).length = m) := Lib.hid (by rw [manyL_length L k bs (by rw [h.len]; omega), hl])
  have hpos : Hid (∀ (j : Nat) (x : Int), bs[j]? = some x → 1 ≤ x) := Lib.hid (by
    intro j x hx
    rcases Int.lt_or_le x 1 with h1 | h1
    · rw [low_here hx h1] at hlow; cases hlow
    · exact h1)
  clear h hl hr hlow hB hbd
  go_enter Try.func22, Try.ntmps22
  go_wp2_with fail
  ((with_reducible refine (left_any b A n cap k _ HS.out.blk (by omega) (by omega)).mono ?_); rintro e w1 ⟨rfl, q, rfl⟩)
  go_wp2_with fail
  ((with_reducible refine (containsFunc_any B m d bs _ HL.out (HR.out.drewN _) (by omega)).mono ?_); rintro e w1 ⟨rfl, rfl⟩)
  rw [HN.out]
  go_wp2_with fail
  go_loopw [6, 26] (fun v c wr => ∃ j : Nat, j ≤ m ∧ c = .int .i64 j ∧ (∃ A' c', v = .slice A' j c') ∧ wr.ownsRow w.heap.size 3 1 v j (iv ((manyL L k bs).take j)) ∧ w.grownBy wr (some b) ∧ Blk wr b 87 #[.slice A n cap, .int .i64 ((k + j : Nat) : Int)]) (fun _ c _ => m - (intOf c).toNat)
  case atStart => exact ⟨0, by omega, rfl, ⟨none, 0, rfl⟩, by simpa [iv] using World.ownsRow_nil _ _ _ _, gr_drewN (World.grownBy.refl _ _) _, HS.out.blk.drewN _⟩
  case round =>
    obtain ⟨j, hj, rfl, ⟨A', c', rfl⟩, hown, hg, hblk⟩ := hrel
    by_cases hlt : j < m
    · have hst := HS.out.turned hg hblk (by omega)
      have hbw : b ≠ w.heap.size := by omega
      obtain ⟨b2, o2, y, hBe, hbl2, hy, cy⟩ := iv_at HL.out (HR.out.grown hg HB.out) hlt
      subst hBe
      have hkj : k + j < L.length := by rw [HS.out.len]; omega
      have hx := List.getElem?_eq_getElem hkj
      generalize L[k + j] = x at hx
      have HY := Lib.hid (hpos.out j y hy)
      have HT := Lib.hid (iv_take_snoc _ j _ (manyL_get L k bs j x y hx hy))
      have HC := Lib.hid (next_some b A n cap (k + j) L y x _ hst HY.out (HD.out y (List.mem_of_getElem? hy)) (by omega) hx)
      have HO := Lib.hid hown
      have HG := Lib.hid hg
      clear hst hown hg hblk hx hy
      go_wp2_with fail
      ((with_reducible refine HC.out.mono ?_); rintro e w1 ⟨rfl, hg1, hblk1⟩)
      have hown1 : w1.ownsRow w.heap.size 3 1 (.slice A' j c') j (iv ((manyL L k bs).take j)) := HO.out.kept hg1 (by
        cases hA : (Value.slice A' j c').ownBlock with
        | none => exact .inl rfl
        | some g => refine .inr ?_; intro e; injection e with e; have := (HO.out.lt g hA).1; omega)
      have hg2 := HG.out.trans hg1
      have hsz := hg2.size
      have HO1 := Lib.hid hown1
      have HB1 := Lib.hid hblk1
      have HG2 := Lib.hid hg2
      clear hown1 hblk1 hg1 hg2 HO HG HC
      go_wp2_with (at_builtin; go_must (refine wpList_push slInt rfl _ _ rfl w.heap.size _ j (iv ((manyL L k bs).take j)) rfl HO1.out #[.int .i64 (x % y)] _ rfl rfl rfl (uone_int _) (by unfold maxLen; omega) (by omega) hsz ?_); intro A2 c2 w2 hown2 hb2)
      go_roundw
      case rel => exact ⟨j + 1, by omega, by go_num, ⟨A2, c2, rfl⟩, by rw [HT.out]; exact hown2, gr_below HG2.out hb2, HB1.out.below hb2 hblt⟩
      case measure => simp [intOf]; omega
    · obtain rfl : j = m := by omega
      go_wp2
      go_ret2
      refine ⟨A', c', rfl, ?_, hg, hblk⟩
      rw [List.take_of_length_le (by rw [HM.out]; omega)] at hown
      exact hown

end Go.Proofs.Ytncjfijpaheobaa
