/-
  Contracts of Scale and Dot, and of their references.
-/
import Derived.Test.YthbkmhdoakpjgaaVec6
import Derived.Test.YthbkmhdoakpjgaaRev
import Derived.Test.YthbkmhdoakpjgaaFixp2
namespace Go.Proofs.Ythbkmhdoakpjgaa
set_option linter.unusedVariables false
set_option linter.unusedSimpArgs false
open Go.RowKit

abbrev In1 (x : Int) : Prop := -9223372036854775808 ≤ x ∧ x ≤ 9223372036854775807
/-- The product, 0 if the shift is out of range. -/
def mulQ (a b q : Int) : Int := if q < 0 ∨ 62 < q then 0 else mulV a b q.toNat
theorem mulQ_in (a b q : Int) : In1 (mulQ a b q) := by
  unfold mulQ mulV wrap64
  split <;> constructor <;> omega
theorem mulQ_comm (a b q : Int) : mulQ a b q = mulQ b a q := by
  unfold mulQ mulV
  rw [Int.mul_comm]
theorem mulQ_any (a b q : Int) (w : World) (ha : In1 a) (hb : In1 b) :
    Calls Try.prog 20 #[.int .i64 a, .int .i64 b, .int .i64 q] w fun e w' => e = .returned (.int .i64 (mulQ a b q)) ∧ Below w.heap.size w w' := by
  unfold mulQ
  split
  · rename_i h
    exact mul_none a b q w h
  · rename_i h
    obtain ⟨k, rfl⟩ := Int.eq_ofNat_of_zero_le (show 0 ≤ q by omega)
    exact mul_any a b k w ha hb (by omega)
theorem refMulQ_any (a b q : Int) (w : World) (ha : In1 a) (hb : In1 b) :
    Calls Try.prog 21 #[.int .i64 a, .int .i64 b, .int .i64 q] w fun e w' => e = .returned (.int .i64 (mulQ a b q)) ∧ w = w' := by
  unfold mulQ
  split
  · rename_i h
    exact refMul_none a b q w h
  · rename_i h
    obtain ⟨k, rfl⟩ := Int.eq_ofNat_of_zero_le (show 0 ≤ q by omega)
    exact refMul_any a b k w ha hb (by omega)

def dotF (q : Int) : List Int → List Int → Int → Int
  | x :: a, y :: b, s => dotF q a b (wrap64 (s + mulQ x y q))
  | _, _, s => s
def dotL (q : Int) (a b : List Int) : Int := dotF q a b 0
theorem dotF_comm (q : Int) : ∀ (a b : List Int) (s : Int), dotF q a b s = dotF q b a s
  | [], [], _ => rfl
  | [], _ :: _, _ => rfl
  | _ :: _, [], _ => rfl
  | x :: a, y :: b, s => by
    simp only [dotF]
    rw [mulQ_comm x y, dotF_comm q a b]
theorem dot_on {q : Int} {a b : List Int} {k : Nat} {x y s v : Int} (hv : Hid (v = dotF q (a.drop k) (b.drop k) s)) (ha : Hid (a[k]? = some x)) (hb : Hid (b[k]? = some y)) : Hid (v = dotF q (a.drop (k + 1)) (b.drop (k + 1)) (wrap64 (s + mulQ x y q))) := by
  obtain ⟨h1, e1⟩ := List.getElem?_eq_some_iff.1 ha.out
  obtain ⟨h2, e2⟩ := List.getElem?_eq_some_iff.1 hb.out
  refine Lib.hid ?_
  rw [hv.out, List.drop_eq_getElem_cons h1, List.drop_eq_getElem_cons h2, e1, e2]
  rfl
theorem dot_end {q : Int} {a b : List Int} {k n : Nat} {s v : Int} (hv : Hid (v = dotF q (a.drop k) (b.drop k) s)) (ha : Hid (a.length = n)) (h1 : n ≤ k) : s = v := by
  rw [hv.out, List.drop_eq_nil_of_le (by have := ha.out; omega)]
  simp only [dotF]

set_option maxHeartbeats 400000 in
theorem dot_not (A B : Option Addr) (n m c d : Nat) (q : Int) (w : World) (hn : n ≤ 9223372036854775807) (hm : m ≤ 9223372036854775807) (h : n ≠ m) :
    Calls Try.prog 47 #[.slice A n c, .slice B m d, .int .i64 q] w fun e w' => e = .returned (.tuple #[.int .i64 0, .bool false]) ∧ w = w' := by
  have d1 : ((n : Int) != (m : Int)) = true := by simp; omega
  go_enter Try.func47, Try.ntmps47
  go_wp2
  go_ret2
  exact ⟨rfl, rfl⟩
set_option maxHeartbeats 400000 in
theorem refDot_not (A B : Option Addr) (n m c d : Nat) (q : Int) (w : World) (hn : n ≤ 9223372036854775807) (hm : m ≤ 9223372036854775807) (h : n ≠ m) :
    Calls Try.prog 48 #[.slice A n c, .slice B m d, .int .i64 q] w fun e w' => e = .returned (.tuple #[.int .i64 0, .bool false]) ∧ w = w' := by
  have d1 : ((n : Int) != (m : Int)) = true := by simp; omega
  go_enter Try.func48, Try.ntmps48
  go_wp2
  go_ret2
  exact ⟨rfl, rfl⟩

set_option maxHeartbeats 1000000 in
theorem dot_any (A B : Option Addr) (n c d : Nat) (q : Int) (a b : List Int) (w : World) (hn : n ≤ 10000000) (ha : a.length = n) (hb : b.length = n) (h : Rd w 1 A n (iv a)) (h' : Rd w 1 B n (iv b)) (hx : ∀ x ∈ a, In1 x) (hx' : ∀ x ∈ b, In1 x) :
    Calls Try.prog 47 #[.slice A n c, .slice B n d, .int .i64 q] w fun e w' => e = .returned (.tuple #[.int .i64 (dotL q a b), .bool true]) ∧ Below w.heap.size w w' := by
  have HA := Lib.hid ha
  have HB := Lib.hid hb
  have HR := Lib.hid h
  have HR' := Lib.hid h'
  have HX := Lib.hid (And.intro hx hx')
  clear ha hb h h' hx hx'
  go_enter Try.func47, Try.ntmps47
  go_wp2_with fail
  go_loopw [8, 18] (fun v i wr => ∃ (k : Nat) (s : Int), k ≤ n ∧ i = .int .i64 k ∧ v = .int .i64 s ∧ Below w.heap.size w wr ∧ Hid (dotL q a b = dotF q (a.drop k) (b.drop k) s)) (fun _ i _ => n - (intOf i).toNat)
  case atStart => exact ⟨0, 0, by omega, rfl, rfl, Below.refl _ _, Lib.hid rfl⟩
  case round =>
    obtain ⟨k, s, hk, rfl, rfl, hb, he⟩ := hrel
    by_cases hlt : k < n
    · obtain ⟨g, o, x, rfl, hbl, hx, c1⟩ := iv_at HA.out (HR.out.below hb) hlt
      obtain ⟨g', o', y, rfl, hbl', hy, c2⟩ := iv_at HB.out (HR'.out.below hb) hlt
      have HXk := Lib.hid hx
      have HYk := Lib.hid hy
      have bx := Lib.hid (HX.out.1 x (List.mem_of_getElem? hx))
      have by_ := Lib.hid (HX.out.2 y (List.mem_of_getElem? hy))
      clear hx hy
      go_wp2_with fail
      ((with_reducible refine (mulQ_any x y q _ bx.out by_.out).mono ?_); rintro e w2 ⟨rfl, hb2⟩)
      have hb2' := hb.trans (hb2.mono hb.size)
      clear hb2
      go_wp2
      go_roundw
      case rel => exact ⟨k + 1, _, by omega, by go_num, rfl, hb2', dot_on he HXk HYk⟩
      case measure => simp [intOf]; omega
    · go_wp2
      go_ret2
      exact ⟨ret_pair (congrArg (Value.int .i64) (dot_end he HA (by omega))), hb⟩

set_option maxHeartbeats 1000000 in
theorem refDot_any (A B : Option Addr) (n c d : Nat) (q : Int) (a b : List Int) (w : World) (hn : n ≤ 10000000) (ha : a.length = n) (hb : b.length = n) (h : Rd w 1 A n (iv a)) (h' : Rd w 1 B n (iv b)) (hx : ∀ x ∈ a, In1 x) (hx' : ∀ x ∈ b, In1 x) :
    Calls Try.prog 48 #[.slice A n c, .slice B n d, .int .i64 q] w fun e w' => e = .returned (.tuple #[.int .i64 (dotL q a b), .bool true]) ∧ Below w.heap.size w w' := by
  have HA := Lib.hid ha
  have HB := Lib.hid hb
  have HR := Lib.hid h
  have HR' := Lib.hid h'
  have HX := Lib.hid (And.intro hx hx')
  clear ha hb h h' hx hx'
  go_enter Try.func48, Try.ntmps48
  go_wp2_with fail
  go_loopw [8, 9] (fun v i wr => ∃ (k : Nat) (s : Int), k ≤ n ∧ i = .int .i64 k ∧ v = .int .i64 s ∧ Below w.heap.size w wr ∧ Hid (dotL q a b = dotF q (a.drop k) (b.drop k) s)) (fun _ i _ => n - (intOf i).toNat)
  case atStart => exact ⟨0, 0, by omega, rfl, rfl, Below.refl _ _, Lib.hid rfl⟩
  case round =>
    obtain ⟨k, s, hk, rfl, rfl, hb, he⟩ := hrel
    by_cases hlt : k < n
    · obtain ⟨g, o, x, rfl, hbl, hx, c1⟩ := iv_at HA.out (HR.out.below hb) hlt
      obtain ⟨g', o', y, rfl, hbl', hy, c2⟩ := iv_at HB.out (HR'.out.below hb) hlt
      have HXk := Lib.hid hx
      have HYk := Lib.hid hy
      have bx := Lib.hid (HX.out.1 x (List.mem_of_getElem? hx))
      have by_ := Lib.hid (HX.out.2 y (List.mem_of_getElem? hy))
      have i1 : (0 : Int) ≤ (k : Int) := by omega
      have i2 : (k : Int) < (n : Int) := by omega
      clear hx hy
      go_wp2_with fail
      have hkw := fun (u : KW wr) b o h => KW.cells u b o h
      refine wp_region_kept wr (by kernel_rfl) (by kernel_rfl) (Kept.of (Below.refl _ _)) ?_
      repeat (go_big_quiet_step ((go_at_call 21; with_reducible exact kept_same (refMulQ_any x y q _ bx.out by_.out))))
      refine wpQuiet_nil ?_
      rintro _ ⟨⟨w2, k2⟩, rfl⟩
      have hb2' := hb.trans (k2.2.2.mono hb.size)
      clear hkw
      go_wp2
      go_roundw
      case rel => exact ⟨k + 1, _, by omega, by go_num, rfl, hb2', dot_on he HXk HYk⟩
      case measure => simp [intOf]; omega
    · go_wp2
      go_ret2
      exact ⟨ret_pair (congrArg (Value.int .i64) (dot_end he HA (by omega))), hb⟩

/-- A vector of which the first k elements are multiplied. -/
def scaleK (l : List Int) (a q : Int) (k : Nat) : List Int := l.mapIdx fun i x => if i < k then mulQ x a q else x
def scaleL (l : List Int) (a q : Int) : List Int := l.map fun x => mulQ x a q
theorem scaleK_length (l : List Int) (a q : Int) (k : Nat) : (scaleK l a q k).length = l.length := by simp [scaleK]
theorem scaleL_length (l : List Int) (a q : Int) : (scaleL l a q).length = l.length := by simp [scaleL]
theorem scaleK_zero (l : List Int) (a q : Int) : scaleK l a q 0 = l := by
  apply List.ext_getElem?
  intro i
  simp [scaleK]
theorem scaleK_at (l : List Int) (a q : Int) (k : Nat) (x : Int) (h : l[k]? = some x) : (scaleK l a q k)[k]? = some x := by simp [scaleK, h]
theorem scaleK_next (l : List Int) (a q : Int) (k : Nat) (x : Int) (h : l[k]? = some x) : (scaleK l a q k).set k (mulQ x a q) = scaleK l a q (k + 1) := by
  obtain ⟨hk, hx⟩ := List.getElem?_eq_some_iff.1 h
  apply List.ext_getElem?
  intro i
  rw [List.getElem?_set]
  by_cases e : k = i
  · subst e
    rw [if_pos rfl, if_pos (by rw [scaleK_length]; exact hk)]
    simp only [scaleK, List.getElem?_mapIdx, h, Option.map_some]
    rw [if_pos (by omega)]
  · rw [if_neg e]
    simp only [scaleK, List.getElem?_mapIdx]
    cases l[i]? with
    | none => rfl
    | some y =>
      simp only [Option.map_some]
      congr 1
      by_cases h1 : i < k
      · rw [if_pos h1, if_pos (by omega)]
      · rw [if_neg h1, if_neg (by omega)]
theorem scaleK_done (l : List Int) (a q : Int) (k : Nat) (h : l.length ≤ k) : scaleK l a q k = scaleL l a q := by
  apply List.ext_getElem?
  intro i
  simp only [scaleK, scaleL, List.getElem?_mapIdx, List.getElem?_map]
  by_cases hi : i < l.length
  · rw [List.getElem?_eq_getElem hi]
    simp only [Option.map_some]
    rw [if_pos (by omega)]
  · rw [List.getElem?_eq_none (by omega)]
    rfl

set_option maxHeartbeats 1000000 in
theorem scale_any (A : Option Addr) (n c : Nat) (a q : Int) (l : List Int) (w : World) (hn : n ≤ 10000000) (hl : l.length = n) (h : Rd w 1 A n (iv l)) (hx : ∀ x ∈ l, In1 x) (ha : In1 a) :
    Calls Try.prog 49 #[.slice A n c, .int .i64 a, .int .i64 q] w (OwnRet w 2 1 n (iv (scaleL l a q))) := by
  have HL := Lib.hid hl
  have HR := Lib.hid h
  have HX := Lib.hid (And.intro hx ha)
  clear hl h hx ha
  go_enter Try.func49, Try.ntmps49
  go_wp2_with fail
  ((with_reducible refine (vecClone_any A n c l _ HL.out HR.out (by omega)).mono ?_); rintro e W ⟨A', cap', rfl, hown, hbW⟩)
  have HO := Lib.hid hown
  clear hown
  go_wp2_with fail
  go_loopw [14] (fun i wr => ∃ k : Nat, k ≤ n ∧ i = .int .i64 k ∧ Hid (wr.ownsRow w.heap.size 2 1 (.slice A' n cap') n (iv (scaleK l a q k))) ∧ Below w.heap.size w wr) (fun i _ => n - (intOf i).toNat)
  case atStart => exact ⟨0, by omega, rfl, by rw [scaleK_zero]; exact HO, hbW⟩
  case round =>
    clear HO hbW
    obtain ⟨k, hk, rfl, hO, hb⟩ := hrel
    by_cases hlt : k < n
    · obtain ⟨_, _, hv, _, _, hf⟩ := own_form hO.out
      injection hv with hA _ hC
      subst hA hC
      obtain ⟨g, rfl, hg1, hg2⟩ := hf (by omega)
      have hkl : k < l.length := by rw [HL.out]; exact hlt
      have c1 : wr.cell? ⟨g, k, none⟩ = some (.int .i64 l[k]) := by
        rw [hO.out.cellAt k (by omega)]
        unfold iv
        rw [List.getElem?_map, scaleK_at l a q k _ (List.getElem?_eq_getElem hkl)]
        rfl
      have HXk := Lib.hid (List.getElem?_eq_getElem hkl)
      have bx := Lib.hid (HX.out.1 _ (List.getElem_mem hkl))
      generalize l[k] = x at *
      clear hf hkl
      go_wp2_with fail
      ((with_reducible refine (mulQ_any x a q _ bx.out HX.out.2).mono ?_); rintro e w2 ⟨rfl, hb2⟩)
      have hO2 := own_below hO.out hb2
      have f1 := hO2.frozenAt k
      have c2 : w2.cell? ⟨g, k, none⟩ = some (.int .i64 x) := by rw [hb2.cell (p := ⟨g, k, none⟩) hg2]; exact c1
      obtain ⟨hst, hgr⟩ := hO2.stored k (.int .i64 (mulQ x a q))
      rw [iv_set, scaleK_next l a q k x HXk.out] at hst
      have HST := Lib.hid hst
      have hb2' := hb.trans (hb2.mono hb.size)
      have hb3 := Lib.hid (hb2'.grown hgr hb2'.size (fun k e => by cases e; exact hg1))
      clear hb2 hO2 hst hgr hO hb c1
      go_wp2
      go_roundw
      case rel => exact ⟨k + 1, by omega, by go_num, HST, hb3.out⟩
      case measure => simp [intOf]; omega
    · obtain rfl : k = n := by omega
      rw [scaleK_done l a q k (by have := HL.out; omega)] at hO
      go_wp2
      go_ret
      exact ⟨_, _, rfl, hO.out, hb⟩

theorem one_int (x : Int) : ∀ u ∈ (#[Value.int .i64 x] : Array Value).toList, u.oneCell' = true := by
  intro u hu
  simp at hu
  subst hu
  rfl

set_option maxHeartbeats 1000000 in
theorem refScale_any (A : Option Addr) (n c : Nat) (a q : Int) (l : List Int) (w : World) (hn : n ≤ 10000000) (hl : l.length = n) (h : Rd w 1 A n (iv l)) (hx : ∀ x ∈ l, In1 x) (ha : In1 a) :
    Calls Try.prog 50 #[.slice A n c, .int .i64 a, .int .i64 q] w (OwnRet w 2 1 n (iv (scaleL l a q))) := by
  have HL := Lib.hid hl
  have HR := Lib.hid h
  have HX := Lib.hid (And.intro hx ha)
  clear hl h hx ha
  go_enter Try.func50, Try.ntmps50
  go_wp2_with fail
  go_loopw [7, 8] (fun v i wr => ∃ k : Nat, k ≤ n ∧ i = .int .i64 k ∧ Coll1 w 2 (iv (scaleL l a q)) k v wr) (fun _ i _ => n - (intOf i).toNat)
  case atStart => exact ⟨0, by omega, rfl, Coll1.start _ _ _⟩
  case round =>
    obtain ⟨k, hk, rfl, hcoll⟩ := hrel
    by_cases hlt : k < n
    · obtain ⟨b, o, x, rfl, hbl, hx, c1⟩ := iv_at HL.out (HR.out.below hcoll.2.2) hlt
      have HXk : Hid ((iv (scaleL l a q))[k]? = some (.int .i64 (mulQ x a q))) := Lib.hid (by simp [iv, scaleL, hx])
      have bx := Lib.hid (HX.out.1 x (List.mem_of_getElem? hx))
      clear hx
      go_wp2_with (first | (go_at_call 21; refine (refMulQ_any x a q _ bx.out HX.out.2).mono ?_; rintro e w2 ⟨rfl, rfl⟩) | (at_builtin; go_must (refine wpList_push slI64 rfl _ _ rfl w.heap.size _ k ((iv (scaleL l a q)).take k) rfl hcoll.2.1 #[.int .i64 (mulQ x a q)] _ rfl rfl rfl (one_int _) (by unfold maxLen; omega) (by omega) hcoll.2.2.size ?_); intro A' cap' w1 hown1 hb1))
      go_roundw
      case rel => exact ⟨k + 1, by omega, by go_num, hcoll.next HXk hown1 hb1⟩
      case measure => simp [intOf]; omega
    · go_wp2
      go_ret
      exact hcoll.done (Lib.hid (by rw [iv_length, scaleL_length]; exact HL.out)) hk hlt

end Go.Proofs.Ythbkmhdoakpjgaa
