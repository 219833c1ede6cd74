/- MatRight, MatOf, MatPlain, DrawAll, MatRows, MatDot, MatMul. -/
import Derived.Test.YtkmaeipoaoikpaaGreatEB07
namespace Go.Proofs.YtkmaeipoaoikpaaGreat
set_option linter.all false
set_option maxRecDepth 100000
set_option maxHeartbeats 4000000
open Lib (hid)
section
open Go.RowKit
def SideP (r q : Int) : Prop := 1 <= r /\ r <= 1048576 /\ 1 <= q /\ q <= 1048576
instance (r q : Int) : Decidable (SideP r q) := inferInstanceAs (Decidable (_ /\ _))
def RightP (r q : Int) (n : Nat) : Prop := SideP r q /\ (n : Int) = r * q
instance (r q : Int) (n : Nat) : Decidable (RightP r q n) := inferInstanceAs (Decidable (_ /\ _))
theorem wrap_ok_MatRight (x : Int) (h1 : -9223372036854775808 <= x) (h2 : x <= 9223372036854775807) : IntKind.i64.wrap x = x := by rw [IntKind.wrap_i64]; omega
theorem side_wrap {r q : Int} (h : SideP r q) : wrap64 (r * q) = r * q := by
 obtain ⟨h1,h2,h3,h4⟩ := h
 have a : 0 <= r * q := Int.mul_nonneg (by omega) (by omega)
 have b : r * q <= 1048576 * 1048576 := Int.mul_le_mul h2 h4 (by omega) (by omega)
 exact wrap64_id _ (by omega) (by omega)
theorem sides_any (r q : Int) (w : World) :
  Calls Tryz.prog 245 #[.int .i64 r,.int .i64 q] w fun e w' => e = .returned (.bool (decide (SideP r q))) /\ w = w' := by
 by_cases h1 : 1 <= r
 ·by_cases h2 : r <= 1048576
  ·by_cases h3 : 1 <= q
   ·by_cases h4 : q <= 1048576
    ·have d1 : decide (r < 1) = false := decide_eq_false (by omega)
     have d2 : decide (1048576 < r) = false := decide_eq_false (by omega)
     have d3 : decide (q < 1) = false := decide_eq_false (by omega)
     have d4 : decide (1048576 < q) = false := decide_eq_false (by omega)
     rw [show decide (SideP r q) = true from decide_eq_true ⟨h1,h2,h3,h4⟩]
     go_enter Tryz.func245,Tryz.ntmps245
     go_wp2
     go_ret
     exact ⟨rfl,rfl⟩
    ·have d1 : decide (r < 1) = false := decide_eq_false (by omega)
     have d2 : decide (1048576 < r) = false := decide_eq_false (by omega)
     have d3 : decide (q < 1) = false := decide_eq_false (by omega)
     have d4 : decide (1048576 < q) = true := decide_eq_true (by omega)
     rw [show decide (SideP r q) = false from decide_eq_false (fun h => h4 h.2.2.2)]
     go_enter Tryz.func245,Tryz.ntmps245
     go_wp2
     go_ret
     exact ⟨rfl,rfl⟩
   ·have d1 : decide (r < 1) = false := decide_eq_false (by omega)
    have d2 : decide (1048576 < r) = false := decide_eq_false (by omega)
    have d3 : decide (q < 1) = true := decide_eq_true (by omega)
    rw [show decide (SideP r q) = false from decide_eq_false (fun h => h3 h.2.2.1)]
    go_enter Tryz.func245,Tryz.ntmps245
    go_wp2
    go_ret
    exact ⟨rfl,rfl⟩
  ·have d1 : decide (r < 1) = false := decide_eq_false (by omega)
   have d2 : decide (1048576 < r) = true := decide_eq_true (by omega)
   rw [show decide (SideP r q) = false from decide_eq_false (fun h => h2 h.2.1)]
   go_enter Tryz.func245,Tryz.ntmps245
   go_wp2
   go_ret
   exact ⟨rfl,rfl⟩
 ·have d1 : decide (r < 1) = true := decide_eq_true (by omega)
  rw [show decide (SideP r q) = false from decide_eq_false (fun h => h1 h.1)]
  go_enter Tryz.func245,Tryz.ntmps245
  go_wp2
  go_ret
  exact ⟨rfl,rfl⟩
theorem right_any (r q : Int) (A : Option Addr) (n c : Nat) (w : World) (hn : n <= 1000000000) :
  Calls Tryz.prog 202 #[.agg #[.int .i64 r,.int .i64 q,.slice A n c]] w fun e w' => e = .returned (.bool (decide (RightP r q n))) /\ Below w.heap.size w w' := by
 obtain ⟨b,hb⟩ : ∃ b,decide (SideP r q) = b := ⟨_,rfl⟩
 have C := fun W => sides_any r q W
 rw [hb] at C
 have HC := hid C
 have HB := hid hb
 clear C hb
 cases b
 ·rw [show decide (RightP r q n) = false from decide_eq_false (fun h => (of_decide_eq_false HB.out) h.1)]
  clear HB
  go_enter Tryz.func202,Tryz.ntmps202
  go_wp2_with fail
  ((with_reducible refine (HC.out _).mono ?_); rintro e w1 ⟨rfl,rfl⟩)
  go_wp2
  go_ret
  exact ⟨rfl,(Below.refl _ _).alloc (Nat.le_refl _) _⟩
 ·have hs : SideP r q := of_decide_eq_true HB.out
  have hw := side_wrap hs
  rw [show decide (RightP r q n) = decide ((n : Int) = r * q) from by
   by_cases h : (n : Int) = r * q
   ·rw [decide_eq_true h,decide_eq_true (show RightP r q n from ⟨hs,h⟩)]
   ·rw [decide_eq_false h,decide_eq_false (show ¬ RightP r q n from fun k => h k.2)]]
  obtain ⟨m,hm⟩ : ∃ m,r * q = m := ⟨_,rfl⟩
  have hw' : wrap64 (r * q) = m := hw.trans hm
  rw [hm]
  clear HB hs hm hw
  go_enter Tryz.func202,Tryz.ntmps202
  go_wp2_with fail
  ((with_reducible refine (HC.out _).mono ?_); rintro e w1 ⟨rfl,rfl⟩)
  go_wp2
  go_ret
  exact ⟨ret_bool (by simp [hw',BEq.beq]),(Below.refl _ _).alloc (Nat.le_refl _) _⟩
theorem row_any (R C k n cap g o : Nat) (w : World) (hk : k < R) (hC : 1 <= C) (hn : R * C = n) (hcap : n <= cap) (hcm : cap <= 9223372036854775807) :
  Calls Tryz.prog 256 #[.agg #[.int .i64 R,.int .i64 C,.slice (some ⟨g,o,none⟩) n cap],.int .i64 k] w fun e w' => e = .returned (.slice (some ⟨g,o + k * C,none⟩) C C) /\ Below w.heap.size w w' := by
 obtain ⟨p,hp⟩ : ∃ p,k * C = p := ⟨_,rfl⟩
 have hpn : p + C <= n := by
  rw [<- hp,<- hn]
  calc k * C + C = (k + 1) * C := by rw [Nat.add_mul,Nat.one_mul]
   _ <= R * C := Nat.mul_le_mul_right _ hk
 have hkp : k <= p := by rw [<- hp]; exact Nat.le_mul_of_pos_right _ hC
 have e1 : wrap64 ((k : Int) * (C : Int)) = (p : Int) := by rw [<- Int.natCast_mul,hp]; exact wrap64_id _ (by omega) (by omega)
 have e2 : wrap64 (((k : Int) + 1) * (C : Int)) = (p : Int) + (C : Int) := by
  rw [Int.add_mul,Int.one_mul,<- Int.natCast_mul,hp]; exact wrap64_id _ (by omega) (by omega)
 rw [hp]
 clear hp hk hn
 go_enter Tryz.func256,Tryz.ntmps256
 go_wp2_with fail
 go_quiet (fail)
 go_wp2
 go_ret
 rw [show p + C - p = C by omega]
 exact ⟨rfl,below_drewN ((Below.refl _ _).alloc (Nat.le_refl _) _) _⟩
theorem of_right (r q : Int) (A : Option Addr) (n c : Nat) (l : List Int) (w : World) (hr : RightP r q n) (hn : n <= 10000000) (hl : l.length = n) (h : Rd w 1 A n (iv l)) :
  Calls Tryz.prog 145 #[.int .i64 r,.int .i64 q,.slice A n c] w fun e w' => ∃ A' c',e = .returned (.tuple #[.agg #[.int .i64 r,.int .i64 q,.slice A' n c'],.bool true]) /\ w'.ownsRow w.heap.size 2 1 (.slice A' n c') n (iv l) /\ Below w.heap.size w w' := by
 obtain ⟨W0,hW0⟩ : ∃ W0,w.alloc (.cells #[.int .i64 0,.int .i64 0,.slice none 0 0] 271) = W0 := ⟨_,rfl⟩
 have k0 : Below w.heap.size w W0 := by rw [<- hW0]; exact (Below.refl _ _).alloc (Nat.le_refl _) _
 have b0 : Blk W0 w.heap.size 271 #[.int .i64 0,.int .i64 0,.slice none 0 0] := by rw [<- hW0]; exact Blk.new _ _ _
 have C2 := fun A c W => right_any r q A n c W (by omega)
 rw [show decide (RightP r q n) = true from decide_eq_true hr] at C2
 have HC1 := hid (vecClone_any A n c l W0 hl (h.below k0) hn)
 have HC2 := hid C2
 have HW := hid hW0
 have HB0 := hid b0
 have HK := hid k0
 clear hW0 b0 k0 C2 h hl hr
 go_enter Tryz.func145,Tryz.ntmps145
 go_wp2_with fail
 rw [HW.out]
 ((with_reducible refine HC1.out.mono ?_); rintro e w1 ⟨A',c',rfl,hown,hb1⟩)
 obtain ⟨W2,hW2⟩ : ∃ W2,w1.alloc (.cells #[.int .i64 r,.int .i64 q,.slice A' n c'] 271) = W2 := ⟨_,rfl⟩
 have k2 : Below w1.heap.size w1 W2 := by rw [<- hW2]; exact (Below.refl _ _).alloc (Nat.le_refl _) _
 have o2 : Blk W2 w1.heap.size 271 #[.int .i64 r,.int .i64 q,.slice A' n c'] := by rw [<- hW2]; exact Blk.new _ _ _
 have HB2 := hid ((HB0.out.kept hb1).kept k2)
 have HO2 := hid o2
 have HOW := hid (own_below hown k2)
 have KK := hid (((Kept.of HK.out).call hb1).call k2).2.2
 have HW2 := hid hW2
 clear hW2 k2 o2 hown hb1
 go_wp2_with fail
 rw [HW2.out]
 ((with_reducible refine (HC2.out _ _ _).mono ?_); rintro e w3 ⟨rfl,hb3⟩)
 have m2 := HO2.out.kept hb3
 have m0 := HB2.out.kept hb3
 have y0 : w3.cell? ⟨w1.heap.size,0,none⟩ = some (.int .i64 r) := m2.cell 0
 have y1 : w3.cell? ⟨w1.heap.size,1,none⟩ = some (.int .i64 q) := m2.cell 1
 have y2 : w3.cell? ⟨w1.heap.size,2,none⟩ = some (.slice A' n c') := m2.cell 2
 have ly := m2.lt
 have x0 : w3.cell? ⟨w.heap.size,0,none⟩ = some (.int .i64 0) := m0.cell 0
 have x1 : w3.cell? ⟨w.heap.size,1,none⟩ = some (.int .i64 0) := m0.cell 1
 have x2 : w3.cell? ⟨w.heap.size,2,none⟩ = some (.slice none 0 0) := m0.cell 2
 have f0 := m0.frozen 0
 have f1 := m0.frozen 1
 have f2 := m0.frozen 2
 have lx := m0.lt
 have HM0 := hid m0
 have HO3 := hid (own_below HOW.out hb3)
 have K3 := hid ((Kept.of KK.out).call hb3).2.2
 clear m2 m0 hb3 HW HW2
 go_wp2_with fail
 have hst := set3 HM0.out (.int .i64 r) (.int .i64 q) (.slice A' n c')
 have hz := HK.out.size
 exact bodyPost_ret (v := .tuple #[.agg #[.int .i64 r,.int .i64 q,.slice A' n c'],.bool true]) (by simp [results,Tryz.results145,go_sem,x0,x1,x2,lx]) rfl ⟨_,_,rfl,own_base (HO3.out.kept hst.1 (.inr (own_blk_ne HO3.out HM0.out (by decide)))) hz,below_gr K3.out K3.out.size hst.1 (Nat.le_refl _)⟩
def natL (n : Nat) (F : Nat -> Int) : List Int := (List.range n).map F
def fillL (n : Nat) (F : Nat -> Int) (k : Nat) : List Int := natL n fun i => if i < k then F i else 0
theorem natL_length (n : Nat) (F : Nat -> Int) : (natL n F).length = n := by simp [natL]
theorem natL_get (n : Nat) (F : Nat -> Int) (i : Nat) (h : i < n) : (natL n F)[i]? = some (F i) := by simp [natL,h]
theorem natL_congr {n : Nat} {F G : Nat -> Int} (h : ∀ i,i < n -> F i = G i) : natL n F = natL n G := by
 unfold natL
 exact List.map_congr_left (fun i hi => h i (List.mem_range.1 hi))
theorem fillL_zero (n : Nat) (F : Nat -> Int) : fillL n F 0 = zeros n := by
 unfold fillL natL zeros
 apply List.ext_getElem?
 intro i
 by_cases h : i < n <;> simp [h,List.getElem?_replicate]
def outF (y x : List Int) (q : Int) (i : Nat) : Int := mulQ (y.getD (i / x.length) 0) (x.getD (i % x.length) 0) q
def outN (y x : List Int) (q : Int) : List Int := natL (y.length * x.length) (outF y x q)
def turnF (l : List Int) (r c i : Nat) : Int := l.getD (i % r * c + i / r) 0
def turnN (l : List Int) (r c : Nat) : List Int := natL (c * r) (turnF l r c)
theorem row_div (r c C : Nat) (h : c < C) : (r * C + c) / C = r := by
 rw [Nat.mul_comm,Nat.mul_add_div (by omega),Nat.div_eq_of_lt h,Nat.add_zero]
theorem row_mod (r c C : Nat) (h : c < C) : (r * C + c) % C = c := by
 rw [Nat.mul_comm,Nat.mul_add_mod,Nat.mod_eq_of_lt h]
theorem row_lt (r c R C : Nat) (hr : r < R) (h : c < C) : r * C + c < R * C := by
 calc r * C + c < r * C + C := by omega
  _ = (r + 1) * C := by rw [Nat.add_mul,Nat.one_mul]
  _ <= R * C := Nat.mul_le_mul_right _ hr
end
section
open Go.RowKit Go.Shelf
attribute [local go_sem] Oper.semAt_some
theorem fin_take {R k : Nat} (h : k < R) : (List.finRange R).take (k + 1) = (List.finRange R).take k ++ [⟨k,h⟩] := by
 rw [List.take_succ_eq_append_getElem (by rw [List.length_finRange]; exact h),List.getElem_finRange]
 rfl
attribute [local go_sem] Oper.semAt_some
def encRow (g o C k : Nat) : Array Value := #[.int .i64 k,.slice (some ⟨g,o + k * C,none⟩) C C]
theorem fin_map (R : Nat) (F : Nat -> Int) : (List.finRange R).map (fun x => F x.val) = natL R F := by
 apply List.ext_getElem?
 intro i
 by_cases h : i < R
 ·rw [natL_get _ _ _ h,List.getElem?_map,List.getElem?_eq_getElem (by rw [List.length_finRange]; exact h),List.getElem_finRange]
  rfl
 ·rw [List.getElem?_eq_none (by rw [List.length_map,List.length_finRange]; omega),List.getElem?_eq_none (by rw [natL_length]; omega)]
theorem rows1_in (n ly Bm R C m cap g o : Nat) (hn : 1 <= n) (hR : R <= 1048576) (hC : 1 <= C) (hm : R * C = m) (hcap : m <= cap) (hcm : cap <= 9223372036854775807) (S : Nat -> Prop) (hBm : ¬ S Bm) (t : TypeId) (W : World) (hblk : Blk W Bm t #[.int .i64 R,.int .i64 C,.slice (some ⟨g,o,none⟩) m cap]) (J Jx : List (Fin R) -> World -> Prop)
  (hY : ∀ pre x W,J pre W -> pre.length < R -> YieldAt Fence.wide (n - 1) Tryz.prog ly (encRow g o C x.val) W fun e W' =>
   (e = .returned (.bool true) /\ J (pre ++ [x]) W' /\ But S W W') \/ (e = .returned (.bool false) /\ Jx (pre ++ [x]) W'))
  (hJ : AbidesFrom W.heap.size J) (h0 : J [] W) :
  CallsIn Fence.wide n Tryz.prog 255 #[.func (.yield ly) #[] #[],.pointer (some ⟨Bm,0,none⟩)] W fun e W' => (∃ v,e = .returned v) /\
   ((∃ ys,ys = List.finRange R /\ J ys W') \/ (∃ pre,pre <+: List.finRange R /\ Jx pre W')) := by
 have HB := hid hblk
 have q0 : W.cell? ⟨Bm,0,none⟩ = some (.int .i64 R) := hblk.cell 0
 have lt0 := hblk.lt
 have HM := hid hm
 clear hblk hm
 refine callsIn_of_wp Tryz.func255 rfl trivial ?_ rfl
 simp only [Tryz.ntmps255,List.size_toArray,List.length_cons,List.length_nil,Nat.reduceAdd,Nat.reduceSub,Array.replicate_succ,Array.replicate_zero,List.push_toArray,List.append_toArray,List.nil_append,List.cons_append]
 gi_wp2_with fail
 gi_loopw [6] (fun i wr => ∃ k : Nat,k <= R /\ i = .int .i64 k /\ J ((List.finRange R).take k) wr /\ But S W wr)
  (fun i _ => R - (intOf i).toNat)
 case atStart => exact ⟨0,Nat.zero_le _,rfl,by simpa using h0,But.refl _ _⟩
 case round =>
  obtain ⟨k,hk,rfl,hJs,hnx⟩ := hrel
  by_cases hlt : k < R
  ·have hb := HB.out.but hnx hBm
   have c0 : wr.cell? ⟨Bm,0,none⟩ = some (.int .i64 R) := hb.cell 0
   have c1 : wr.cell? ⟨Bm,1,none⟩ = some (.int .i64 C) := hb.cell 1
   have c2 : wr.cell? ⟨Bm,2,none⟩ = some (.slice (some ⟨g,o,none⟩) m cap) := hb.cell 2
   have ltw := hb.lt
   have hws : W.heap.size <= wr.heap.size := hnx.size
   have HJS := hid hJs
   have HN := hid hnx
   have HS := hid (row_any R C k m cap g o wr hlt hC HM.out hcap hcm)
   clear hJs hnx hb q0
   gi_wp2_with fail
   refine ⟨trivial,callsIn_wide.2 (HS.out.mono ?_)⟩
   rintro e w1 ⟨rfl,hb1⟩
   obtain ⟨fn,tmps,assign,body,hy,hR'⟩ := hY _ ⟨k,hlt⟩ w1 (hJ _ _ _ none HJS.out (gr_of_below hb1 none) (fun r e => by cases e)) (by rw [List.length_take,List.length_finRange]; omega)
   have HR := hid hR'
   have HN2 := hid (HN.out.call hb1)
   clear hb1 c0 c1 c2 HS hR' HJS HN
   dsimp only [encRow] at hy
   gi_wp2_with fail
   refine HR.out.mono ?_
   rintro e W3 (⟨rfl,hJ3,hk3⟩ | ⟨rfl,hJx3⟩)
   ·gi_wp2
    go_roundw
    case rel => exact ⟨k + 1,by omega,by simp,by rw [fin_take hlt]; exact hJ3,HN2.out.trans hk3⟩
    case measure => simp [intOf]; omega
   ·gi_wp2
    refine bodyPost_ret (results_none rfl _ _ _) rfl ?_
    exact ⟨⟨_,rfl⟩,.inr ⟨_,by rw [<- fin_take hlt]; exact List.take_prefix _ _,hJx3⟩⟩
  ·obtain rfl : k = R := by omega
   rw [List.take_of_length_le (by rw [List.length_finRange]; omega)] at hJs
   gi_wp2
   go_end0
   exact ⟨⟨_,rfl⟩,.inl ⟨_,rfl,hJs⟩⟩
theorem rows_stops (n Bm R C m cap g o : Nat) (hn : 1 <= n) (hR : R <= 1048576) (hC : 1 <= C) (hm : R * C = m) (hcap : m <= cap) (hcm : cap <= 9223372036854775807) (S : Nat -> Prop) (hBm : ¬ S Bm) (t : TypeId) (w : World) (hblk : Blk w Bm t #[.int .i64 R,.int .i64 C,.slice (some ⟨g,o,none⟩) m cap]) :
  SeqStopsK Fence.wide n Tryz.prog 255 #[.pointer (some ⟨Bm,0,none⟩)] (fun x : Fin R => encRow g o C x.val) (But S) (fun ys => ys = List.finRange R) (fun pre => pre <+: List.finRange R) R w := fun l J Jx W hW hJ _ hY h0 =>
 rows1_in n l Bm R C m cap g o hn hR hC hm hcap hcm S hBm t W (hblk.kept hW) J Jx hY hJ h0
def RowsRet (w : World) (cs : Array Value) (e : Ending) (w' : World) : Prop :=
 e = .returned (.func (.func 255) #[] #[.pointer (some ⟨w.heap.size,0,none⟩)]) /\ Blk w' w.heap.size 271 cs /\ Below w.heap.size w w'
theorem rows_any (r q : Int) (A : Option Addr) (n c : Nat) (w : World) :
  Calls Tryz.prog 219 #[.agg #[.int .i64 r,.int .i64 q,.slice A n c]] w (RowsRet w #[.int .i64 r,.int .i64 q,.slice A n c]) := by
 go_enter Tryz.func219,Tryz.ntmps219
 go_wp2
 go_ret
 exact ⟨rfl,Blk.new _ _ _,(Below.refl _ _).alloc (Nat.le_refl _) _⟩
end
section
open Go.RowKit
def dotF (q : Int) : List Int -> List Int -> Int -> Int
 | x :: a,y :: b,s => dotF q a b (wrap64 (s + mulQ x y q))
 | _,_,s => s
def dotL (q : Int) (a b : List Int) : Int := dotF q a b 0
theorem dot_on {q : Int} {a b : List Int} {k : Nat} {x y s v : Int} (hv : Hid (v = dotF q (a.drop k) (b.drop k) s)) (ha : Hid (a[k]? = some x)) (hb : Hid (b[k]? = some y)) : Hid (v = dotF q (a.drop (k + 1)) (b.drop (k + 1)) (wrap64 (s + mulQ x y q))) := by
 obtain ⟨h1,e1⟩ := List.getElem?_eq_some_iff.1 ha.out
 obtain ⟨h2,e2⟩ := List.getElem?_eq_some_iff.1 hb.out
 refine hid ?_
 rw [hv.out,List.drop_eq_getElem_cons h1,List.drop_eq_getElem_cons h2,e1,e2]
 rfl
theorem dot_end {q : Int} {a b : List Int} {k n : Nat} {s v : Int} (hv : Hid (v = dotF q (a.drop k) (b.drop k) s)) (ha : Hid (a.length = n)) (h1 : n <= k) : s = v := by
 rw [hv.out,List.drop_eq_nil_of_le (by have := ha.out; omega)]
 simp only [dotF]
theorem dot_any (A B : Option Addr) (n c d : Nat) (q : Int) (a b : List Int) (w : World) (hn : n <= 10000000) (ha : a.length = n) (hb : b.length = n) (h : Rd w 1 A n (iv a)) (h' : Rd w 1 B n (iv b)) (hx : ∀ x ∈ a,In1 x) (hx' : ∀ x ∈ b,In1 x) :
  Calls Tryz.prog 147 #[.slice A n c,.slice B n d,.int .i64 q] w fun e w' => e = .returned (.tuple #[.int .i64 (dotL q a b),.bool true]) /\ Below w.heap.size w w' := by
 have HA := hid ha
 have HB := hid hb
 have HR := hid h
 have HR' := hid h'
 have HX := hid (And.intro hx hx')
 clear ha hb h h' hx hx'
 go_enter Tryz.func147,Tryz.ntmps147
 go_wp2_with fail
 go_loopw [8,18] (fun v i wr => ∃ (k : Nat) (s : Int),k <= n /\ i = .int .i64 k /\ v = .int .i64 s /\ Below w.heap.size w wr /\ Hid (dotL q a b = dotF q (a.drop k) (b.drop k) s)) (fun _ i _ => n - (intOf i).toNat)
 case atStart => exact ⟨0,0,by omega,rfl,rfl,Below.refl _ _,hid rfl⟩
 case round =>
  obtain ⟨k,s,hk,rfl,rfl,hb,he⟩ := hrel
  by_cases hlt : k < n
  ·obtain ⟨g,o,x,rfl,hbl,hx,c1⟩ := iv_at HA.out (HR.out.below hb) hlt
   obtain ⟨g',o',y,rfl,hbl',hy,c2⟩ := iv_at HB.out (HR'.out.below hb) hlt
   have HXk := hid hx
   have HYk := hid hy
   have bx := hid (HX.out.1 x (List.mem_of_getElem? hx))
   have by_ := hid (HX.out.2 y (List.mem_of_getElem? hy))
   clear hx hy
   go_wp2_with fail
   ((with_reducible refine (mulQ_any x y q _ bx.out by_.out).mono ?_); rintro e w2 ⟨rfl,hb2⟩)
   have hb2' := hb.trans (hb2.mono hb.size)
   clear hb2
   go_wp2
   go_roundw
   case rel => exact ⟨k + 1,_,by omega,by go_num,rfl,hb2',dot_on he HXk HYk⟩
   case measure => simp [intOf]; omega
  ·go_wp2
   go_ret2
   exact ⟨ret_pair (congrArg (Value.int .i64) (dot_end he HA (by omega))),hb⟩
end
section
open Go.RowKit Go.Shelf
attribute [local go_sem] Oper.semAt_some
def rowL (l : List Int) (C k : Nat) : List Int := (l.drop (k * C)).take C
def mulN (l x : List Int) (q : Int) (R : Nat) : List Int := natL R fun k => dotL q (rowL l x.length k) x
theorem rowL_length {l : List Int} {R C k m : Nat} (hm : R * C = m) (hl : l.length = m) (hk : k < R) : (rowL l C k).length = C := by
 have h1 : k * C + C <= m := by
  rw [<- hm]
  calc k * C + C = (k + 1) * C := by rw [Nat.add_mul,Nat.one_mul]
   _ <= R * C := Nat.mul_le_mul_right _ hk
 unfold rowL
 rw [List.length_take,List.length_drop,hl]
 omega
theorem rowL_in {l : List Int} {p : Int -> Prop} (h : ∀ x ∈ l,p x) (C k : Nat) : ∀ x ∈ rowL l C k,p x := fun x hx => h x (List.mem_of_mem_drop (List.mem_of_mem_take hx))
theorem rowL_get {l : List Int} {C k j : Nat} (hj : j < C) : (rowL l C k)[j]? = l[k * C + j]? := by
 unfold rowL
 rw [List.getElem?_take_of_lt hj,List.getElem?_drop]
theorem Rd.row {w : World} {l : List Int} {R C k m g o : Nat} (hm : R * C = m) (hl : l.length = m) (hk : k < R) (hC : 1 <= C) (h : Rd w 1 (some ⟨g,o,none⟩) m (iv l)) : Rd w 1 (some ⟨g,o + k * C,none⟩) C (iv (rowL l C k)) := by
 refine ⟨by rw [iv_length,rowL_length hm hl hk,Nat.mul_one],fun _ => ?_⟩
 have hm0 : 0 < m := by rw [<- hm]; exact Nat.mul_pos (by omega) hC
 obtain ⟨b,o',e,hb,hc⟩ := h.2 hm0
 cases e
 refine ⟨_,_,rfl,hb,fun j u hu => ?_⟩
 have hj : j < C := by
  have := (List.getElem?_eq_some_iff.1 hu).1
  rwa [iv_length,rowL_length hm hl hk] at this
 rw [Nat.add_assoc]
 refine hc _ _ ?_
 rw [iv,List.getElem?_map] at hu ⊢
 rw [<- rowL_get hj]
 exact hu
theorem Boxed.appendedS {S : Nat -> Prop} {W w1 : World} {n₀ B : Nat} {t e : TypeId} {size : Nat} {v v' : Value} {k m : Nat} {xs ys : List Value} {tmp : Obj}
  (hv : Boxed W B t v) (hte : t ≠ e) (hrow : W.ownsRow n₀ e size v k xs) (hSB : S B) (hSn : ∀ i,n₀ <= i -> S i)
  (hown' : w1.ownsRow n₀ e size v' m ys) (hgrow : (W.alloc tmp).grownBy w1 v.ownBlock) :
  Boxed w1 B t v /\ Boxed (w1.setCell ⟨B,0,none⟩ v') B t v' /\ (w1.setCell ⟨B,0,none⟩ v').ownsRow n₀ e size v' m ys /\ KeepsOthers W (w1.setCell ⟨B,0,none⟩ v') /\ But S W (w1.setCell ⟨B,0,none⟩ v') := by
 have hv1 : Boxed w1 B t v := (hv.alloc tmp).kept hgrow (hv.not_row hte hrow)
 refine ⟨hv1,hv1.set v',hown'.kept (grownBy_setCell' w1 B v') (.inr (hv1.not_row hte hown').symm),?_,?_⟩
 ·refine ((KeepsOthers.alloc W tmp).trans (KeepsOthers.of_grownBy hgrow fun j o ej hj => ?_)).trans (KeepsOthers.setCell _ _ _)
  rcases (hrow.alloc tmp).2 with ⟨rfl,_⟩ | ⟨g,cap,cur,rfl,_,hgb,_⟩
  ·simp [Value.ownBlock] at ej
  ·obtain rfl : g = j := by simpa [Value.ownBlock] using ej
   rw [hgb] at hj; cases hj; rfl
 ·refine ((But.of_below S ((Below.refl _ W).alloc (Nat.le_refl _) tmp)).trans (But.of_own hgrow fun j ej => ?_)).trans (But.of_gr (grownBy_setCell' _ _ _) hSB)
  rcases hrow.2 with ⟨rfl,_⟩ | ⟨g,cap,cur,rfl,hb,_,_⟩
  ·simp [Value.ownBlock] at ej
  ·obtain rfl : g = j := by simpa [Value.ownBlock] using ej
   exact hSn _ hb
theorem one_cells (x : Int) : ∀ u ∈ (#[Value.int .i64 x] : Array Value).toList,u.oneCell' = true := by
 intro u hu
 simp at hu
 subst hu
 rfl
theorem mulN_fin (l x : List Int) (q : Int) (R : Nat) : (List.finRange R).map (fun k => dotL q (rowL l x.length k.val) x) = mulN l x q R := fin_map R fun k => dotL q (rowL l x.length k) x
theorem mul_good (R C m cap g o : Nat) (B : Option Addr) (d : Nat) (l x : List Int) (q : Int) (w : World) (hR : 1 <= R /\ R <= 1048576) (hC : 1 <= C /\ C <= 1048576) (hm : R * C = m) (hm' : m <= 1048576) (hcap : m <= cap) (hcm : cap <= 9223372036854775807) (hl : l.length = m) (hxl : x.length = C)
  (h : Rd w 1 (some ⟨g,o,none⟩) m (iv l)) (hx : Rd w 1 B C (iv x)) (h1 : ∀ v ∈ l,In1 v) (h2 : ∀ v ∈ x,In1 v) :
  Calls Tryz.prog 247 #[.agg #[.int .i64 R,.int .i64 C,.slice (some ⟨g,o,none⟩) m cap],.slice B C d,.int .i64 q] w fun e w' => ∃ A c,e = .returned (.tuple #[.slice A R c,.bool true]) /\ w'.ownsRow w.heap.size 2 1 (.slice A R c) R (iv (mulN l x q R)) /\ Below w.heap.size w w' := by
 obtain ⟨i0,hi,hz0,hz1,hz2⟩ := info_parts slVec.info
 obtain ⟨W0,hW0⟩ : ∃ W0,((w.alloc (.cells #[.int .i64 R,.int .i64 C,.slice (some ⟨g,o,none⟩) m cap] 271)).alloc (.cells #[.slice B C d] 74)).alloc (.cells #[.int .i64 q] 3) = W0 := ⟨_,rfl⟩
 have k0 : Below w.heap.size w W0 := by rw [<- hW0]; exact (((Below.refl _ _).alloc (Nat.le_refl _) _).alloc (by simp) _).alloc (by simp <;> omega) _
 have b0 : Blk W0 w.heap.size 271 #[.int .i64 R,.int .i64 C,.slice (some ⟨g,o,none⟩) m cap] := by rw [<- hW0]; exact ((Blk.new _ _ _).alloc _).alloc _
 have b1 : Blk W0 (w.heap.size + 1) 74 #[.slice B C d] := by rw [<- hW0]; exact (Blk.new' _ _ (by simp)).alloc _
 have b2 : Blk W0 (w.heap.size + 1 + 1) 3 #[.int .i64 q] := by rw [<- hW0]; exact Blk.new' _ _ (by simp)
 have hrt : decide (RightP R C m) = true := decide_eq_true ⟨⟨by omega,by omega,by omega,by omega⟩,by rw [<- hm]; exact Int.natCast_mul R C⟩
 have C1 := fun W => right_any R C (some ⟨g,o,none⟩) m cap W (by omega)
 rw [hrt] at C1
 have HC1 := hid C1
 have HR0 := hid (h.below k0)
 have HX0 := hid (hx.below k0)
 have HK0 := hid k0
 have HB0 := hid b0
 have HB1 := hid b1
 have HB2 := hid b2
 have HL := hid (And.intro hl hxl)
 have HIN := hid (And.intro h1 h2)
 have HM := hid hm
 have HR := hid hR
 have HC := hid hC
 have a0 : W0.cell? ⟨w.heap.size,0,none⟩ = some (.int .i64 R) := b0.cell 0
 have a1 : W0.cell? ⟨w.heap.size,1,none⟩ = some (.int .i64 C) := b0.cell 1
 have a2 : W0.cell? ⟨w.heap.size,2,none⟩ = some (.slice (some ⟨g,o,none⟩) m cap) := b0.cell 2
 have lt0 := b0.lt
 have HW0 := hid hW0
 clear C1 k0 b0 b1 b2 hrt h hx hl hxl h1 h2 hm hW0 hR hC
 refine (callsIn_wide (n := 9)).1 (callsIn_of_wp_marks Tryz.func247 rfl trivial (wpIn_wide.2 ?_) rfl)
 simp only [Tryz.ntmps247,List.size_toArray,List.length_cons,List.length_nil,Nat.reduceAdd,Nat.reduceSub,Array.replicate_succ,Array.replicate_zero,List.push_toArray,List.append_toArray,List.nil_append,List.cons_append]
 go_wp2_with fail
 rw [HW0.out]
 clear HW0
 go_wp2_with fail
 ((with_reducible refine (HC1.out _).mono ?_); rintro e w1 ⟨rfl,hb1⟩)
 have m0 : Blk w1 w.heap.size 271 #[.int .i64 R,.int .i64 C,.slice (some ⟨g,o,none⟩) m cap] := HB0.out.kept hb1
 have m1 : Blk w1 (w.heap.size + 1) 74 #[.slice B C d] := HB1.out.kept hb1
 have m2 : Blk w1 (w.heap.size + 1 + 1) 3 #[.int .i64 q] := HB2.out.kept hb1
 have hr1 := HR0.out.below hb1
 have hx1 := HX0.out.below hb1
 have hk1 := ((Kept.of HK0.out).call hb1).2.2
 have d1 : ((C : Int) != (C : Int)) = false := by simp
 have y1 : w1.cell? ⟨w.heap.size,1,none⟩ = some (.int .i64 C) := m0.cell 1
 have y2 : w1.cell? ⟨w.heap.size + 1,0,none⟩ = some (.slice B C d) := m1.cell 0
 have y3 : w1.cell? ⟨w.heap.size,0,none⟩ = some (.int .i64 R) := m0.cell 0
 have y4 : w1.cell? ⟨w.heap.size,2,none⟩ = some (.slice (some ⟨g,o,none⟩) m cap) := m0.cell 2
 have ly1 := m0.lt
 have ly2 := m1.lt
 have HM0 := hid m0
 have HM1 := hid m1
 have HM2 := hid m2
 have HR1 := hid hr1
 have HX1 := hid hx1
 have HK1 := hid hk1
 clear m0 m1 m2 hr1 hx1 hk1 hb1 a0 a1 a2 lt0 HB0 HB1 HB2 HR0 HX0 HK0 HC1
 go_wp2_with fail
 obtain ⟨W2,hW2⟩ : ∃ W2,w1.alloc (.cells #[.slice none 0 0] 74) = W2 := ⟨_,rfl⟩
 rw [hW2]
 have k2 : Below w1.heap.size w1 W2 := by rw [<- hW2]; exact (Below.refl _ _).alloc (Nat.le_refl _) _
 have o2 : Boxed W2 w1.heap.size 74 (.slice none 0 0) := by rw [<- hW2]; exact Boxed.new _ _ _
 clear hW2
 ((with_reducible refine (rows_any R C _ m cap _).mono ?_); rintro e w3 ⟨rfl,hbm,hb3⟩)
 clear y1 y2 y3 y4 d1
 go_wp2_with fail
 have z2 : w1.heap.size < W2.heap.size := o2.lt
 have z3 : W2.heap.size < w3.heap.size := hbm.lt
 have K13 : Below w1.heap.size w1 w3 := k2.trans (hb3.mono k2.size)
 have o3 : Boxed w3 w1.heap.size 74 (.slice none 0 0) := o2.kept (gr_of_below hb3 none) (by simp)
 have hseq := rows_stops (9 - 1) W2.heap.size R C m cap g o (by omega) HR.out.2 HC.out.1 HM.out hcap hcm (fun b => b = w1.heap.size \/ w3.heap.size <= b) (by omega) _ w3 hbm
 clear hb3 k2 o2 hbm
 refine wpIn_wide.1 (wpIn_rangeFunc_ownH (F := Fence.wide) (n := 9) rfl (by omega) (gf := 255) (lb := #[.pointer (some ⟨W2.heap.size,0,none⟩)]) rfl trivial (enters_of Tryz.func255 (by kernel_rfl) rfl) hseq (fun h k => h.trans k) (butK_b (w := w3) (fun i hi => .inr hi)) (Below.refl _ _) (fun _ => rfl)
  (fun pre W => (∃ v,Boxed W w1.heap.size 74 v /\ W.ownsRow w3.heap.size 2 1 v pre.length (iv (pre.map fun k => dotL q (rowL l C k.val) x)) /\ True) /\ Below w1.heap.size w1 W)
  (fun _ _ _ => False)
  (OwnFrom.and (Own.from (holdsRow_own w3.heap.size w1.heap.size 74 2 1 (fun pre : List (Fin R) => pre.length) (fun pre => iv (pre.map fun k => dotL q (rowL l C k.val) x)) (fun _ _ => True)) _) (ownFrom_below (Nat.le_refl _) K13.size))
  (fun _ _ _ _ _ hs _ _ => hs)
  ⟨⟨_,o3,World.ownsRow_nil _ _ _ _,trivial⟩,K13⟩
  (fun k a' W => a' = { tmps := #[.agg #[.int .i64 R,.int .i64 C,.slice (some ⟨g,o,none⟩) m cap],.slice B C d,.int .i64 q,.pointer (some ⟨w.heap.size,0,none⟩),.pointer (some ⟨w.heap.size + 1,0,none⟩),.pointer (some ⟨w.heap.size + 1 + 1,0,none⟩),.slice none 0 0,.bool false,.pointer (some ⟨w1.heap.size,0,none⟩),undef,.slice (some ⟨g,o + k.val * C,none⟩) C C,undef,undef,.agg #[.int .i64 R,.int .i64 C,.slice (some ⟨g,o,none⟩) m cap],.bool true,.bool false,.bool false,.slice B C d,.int .i64 C,.pointer (some ⟨w.heap.size,1,none⟩),.int .i64 C,.bool false,.bool false,.agg #[.int .i64 R,.int .i64 C,.slice (some ⟨g,o,none⟩) m cap],.func (.func 255) #[] #[.pointer (some ⟨W2.heap.size,0,none⟩)],.int .i64 k.val,.slice (some ⟨g,o + k.val * C,none⟩) C C,undef,undef,undef,undef,undef,undef,undef,undef,undef,undef,undef,undef],defers := [] })
  (fun x a' s X Y row hs hg hr => hs) ?assign ?body ?done ?stop)
 case assign =>
  rintro l' pre k W K hI hK
  simp only [encRow]
  gi_wp2_with fail
  exact hK _ _ ((KeepsOthers.refl _).from _) (But.refl _ _) hI rfl
 case body =>
  rintro l' pre k a' W hl3 ⟨r0,hr0⟩ ⟨⟨v,hv,hrow,_⟩,hB⟩ rfl hlt
  have hW3 : w3.heap.size <= W.heap.size := Nat.le_trans hl3 (Nat.le_of_lt (Array.getElem?_eq_some_iff.1 hr0).1)
  clear hl3 hr0
  have hc := hv.cell
  have x1 : W.cell? ⟨w.heap.size + 1,0,none⟩ = some (.slice B C d) := (HM1.out.kept hB).cell 0
  have x2 : W.cell? ⟨w.heap.size + 1 + 1,0,none⟩ = some (.int .i64 q) := (HM2.out.kept hB).cell 0
  have HD := hid (dot_any (some ⟨g,o + k.val * C,none⟩) B C C d q (rowL l C k.val) x W (by have := HC.out; omega) (rowL_length HM.out HL.out.1 k.isLt) HL.out.2 (Rd.row HM.out HL.out.1 k.isLt HC.out.1 (HR1.out.below hB)) (HX1.out.below hB) (rowL_in HIN.out.1 C k.val) HIN.out.2)
  have HV := hid hv
  have HRW := hid hrow
  have HBB := hid hB
  clear hv hrow hB
  gi_wp2_with fail
  refine ⟨trivial,(callsIn_wide.2 (HD.out.mono ?_)).inRound _⟩
  rintro e w4 ⟨rfl,hb4⟩
  have hv4 : Boxed w4 w1.heap.size 74 v := HV.out.kept (gr_of_below hb4 none) (by simp)
  have hrow4 := own_below HRW.out hb4
  have hB4 := HBB.out.trans (hb4.mono HBB.out.size)
  have hc4 := hv4.cell
  have HK4 := hid hb4
  have hRR := HR.out.2
  have HW34 := hid (Nat.le_trans hW3 hb4.size)
  clear hc x1 x2 HD hb4 hW3
  gi_wp2_with (gi_at_builtin; go_must (refine wpListIn_append_own _ rfl _ _ 74 rfl w3.heap.size 2 i0 (.int .i64 0) 1 8 Tryz.underlying74 hi hz0 hz1 hz2 rfl (by decide) _ _ _ rfl (hrow4.alloc _) ⟨w4.heap.size,0,none⟩ 1 1 [.int .i64 (dotL q (rowL l C k.val) x)] rfl rfl (cells_new w4 #[.int .i64 (dotL q (rowL l C k.val) x)] 2) (one_cells _) (by unfold maxLen; omega) (by omega) (by have := HW34.out; simp; omega) ?_); go_must (intro v' w5 hown' hgrow hxx); go_must (have hsu := ownsRow_succ hown'); go_must (obtain ⟨g',cap',rfl⟩ := hsu); go_must (obtain ⟨hv1,hv2,hr2,hk2,hb2⟩ := Boxed.appendedS (S := fun b => b = w1.heap.size \/ w3.heap.size <= b) hv4 (by decide) hrow4 (.inl rfl) (fun i hi => .inr hi) hown' hgrow); have hc1 := hv1.cell; have hf1 := hv1.frozen)
  exact ⟨((KeepsOthers.of_grownBy (row := none) (gr_of_below HK4.out none) (fun j o e => by cases e)).trans hk2).from _,(But.of_below _ HK4.out).trans hb2,⟨_,hv2,by rw [List.length_append,List.map_append,iv_append]; exact hr2,trivial⟩,hB4.trans (hb2.below hB4.size (fun i hi => by have := K13.size; omega))⟩
 case done =>
  rintro D ys W hD rfl ⟨⟨v,hv,hrow,_⟩,hB⟩ hK
  have hc := hv.cell
  go_wp2_with fail
  refine ⟨by simp,.inl ⟨_,_,rfl,run_takeDeferred hK,?_⟩⟩
  obtain ⟨A,cap,rfl,_⟩ := own_form hrow
  have hrow' := hrow
  rw [List.length_finRange,<- HL.out.2,mulN_fin] at hrow'
  rw [List.length_finRange]
  have hz := HK1.out.size
  exact ⟨.tuple #[.slice A R cap,.bool true],by simp [results,Tryz.results247,go_sem],A,cap,rfl,own_base (ownsRow_putObj hrow' _ hK rfl) (Nat.le_trans hz K13.size),(HK1.out.trans (hB.mono hz)).trans (belowK_b (w := w) (Nat.le_refl _) W D _ _ (by have := K13.size; omega) hK rfl rfl)⟩
 case stop =>
  rintro D c pre W _ _ h _
  exact h.elim
end
end Go.Proofs.YtkmaeipoaoikpaaGreat
