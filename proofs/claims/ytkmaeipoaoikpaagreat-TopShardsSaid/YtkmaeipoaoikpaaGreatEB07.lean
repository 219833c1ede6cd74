/- VecS, MatVec, VecR, RedMove, MatZ, MatB. -/
import Derived.Deep.OwnRows
import Derived.Laws.CopyOwn
import Derived.Test.YtkmaeipoaoikpaaGreatEB03
import Derived.Test.YtkmaeipoaoikpaaGreatEB06
namespace Go.Proofs.YtkmaeipoaoikpaaGreat
set_option linter.all false
set_option maxRecDepth 100000
set_option maxHeartbeats 2000000
open Lib (hid)
section
open Go.RowKit
theorem slI64 : Sl Tryz.prog 26 2 (.int .i64 0) 1 8 := ⟨Tryz.underlying26,by kernel_rfl,rfl,by omega⟩
theorem slVec : Sl Tryz.prog 74 2 (.int .i64 0) 1 8 := ⟨Tryz.underlying74,by kernel_rfl,rfl,by omega⟩
theorem sliceClone_any (A : Option Addr) (n cap : Nat) (l : List Int) (w : World) (hl : l.length = n) (h : Rd w 1 A n (iv l)) (hn : n <= 10000000) :
  Calls Tryz.prog 182 #[.slice A n cap] w (OwnRet w 2 1 n (iv l)) := by
 have HR := hid h
 have HL := hid hl
 have hq := fun (w : World) (a : Option Addr) (n c : Nat) => Lib.run_eql_slice_nil (P := Tryz.prog) w 74 2 a n c 0 0 Tryz.underlying74
 clear h hl
 cases A with
 | none =>
  have hn0 : n = 0 := by
   rcases Nat.eq_zero_or_pos n with h0 | h0
   ·exact h0
   ·obtain ⟨b,o,h,_⟩ := HR.out.2 h0; cases h
  subst hn0
  have hl0 : l = [] := List.eq_nil_of_length_eq_zero HL.out
  subst hl0
  go_enter Tryz.func182,Tryz.ntmps182
  go_wp2
  go_ret
  exact ⟨none,0,rfl,World.ownsRow_nil _ _ _ _,Below.refl _ _⟩
 | some ad =>
  go_enter Tryz.func182,Tryz.ntmps182
  go_wp2_with (at_builtin; go_must (refine wpList_appendAll slVec rfl _ _ rfl w.heap.size _ 0 [] rfl (World.ownsRow_lit w #[] 0 (Nat.le_refl _) (by unfold maxLen; omega) rfl) (some ad) n cap (iv l) rfl (HR.out.alloc _) (iv_one l) (by unfold maxLen; omega) (by omega) (by simp) ?_); intro A' cap' w1 hown1 hb1)
  go_ret
  exact ⟨A',cap',by simp,by simpa using hown1,((Below.refl _ _).alloc (Nat.le_refl _) _).trans hb1⟩
theorem vecClone_any (A : Option Addr) (n cap : Nat) (l : List Int) (w : World) (hl : l.length = n) (h : Rd w 1 A n (iv l)) (hn : n <= 10000000) :
  Calls Tryz.prog 107 #[.slice A n cap] w (OwnRet w 2 1 n (iv l)) := by
 have HR := hid h
 have HL := hid hl
 clear h hl
 go_enter Tryz.func107,Tryz.ntmps107
 go_wp2_with fail
 ((with_reducible refine (sliceClone_any A n cap l _ HL.out HR.out (by omega)).mono ?_); rintro e w1 ⟨A',cap',rfl,hown,hb1⟩)
 have HO := hid hown
 clear hown
 go_wp2
 go_ret
 exact ⟨A',cap',rfl,HO.out,hb1⟩
def diffFrom : List Int -> List Int -> Int -> Int
 | [],[],_ => -1
 | [],_ :: _,i => i
 | _ :: _,[],i => i
 | x :: a,y :: b,i => if x = y then diffFrom a b (i + 1) else i
def diffL (a b : List Int) : Int := diffFrom a b 0
theorem diff_neg : ∀ (a b : List Int) (i : Int),0 <= i -> (diffFrom a b i < 0 ↔ a = b)
 | [],[],_,_ => by simp [diffFrom]
 | [],_ :: _,i,h => by simp [diffFrom]; omega
 | _ :: _,[],i,h => by simp [diffFrom]; omega
 | x :: a,y :: b,i,h => by
  simp only [diffFrom]
  by_cases e : x = y
  ·rw [if_pos e,diff_neg a b (i + 1) (by omega)]; simp [e]
  ·rw [if_neg e]; simp [e]; omega
theorem same_iff (a b : List Int) : decide (diffL a b < 0) = decide (a = b) := by
 rw [Bool.eq_iff_iff]
 simp only [decide_eq_true_eq]
 exact diff_neg a b 0 (by omega)
theorem diff_on {a b : List Int} {k : Nat} {x v : Int} (hv : Hid (v = diffFrom (a.drop k) (b.drop k) k)) (ha : Hid (a[k]? = some x)) (hb : Hid (b[k]? = some x)) : Hid (v = diffFrom (a.drop (k + 1)) (b.drop (k + 1)) ((k + 1 : Nat) : Int)) := by
 obtain ⟨h1,e1⟩ := List.getElem?_eq_some_iff.1 ha.out
 obtain ⟨h2,e2⟩ := List.getElem?_eq_some_iff.1 hb.out
 refine hid ?_
 rw [hv.out,List.drop_eq_getElem_cons h1,List.drop_eq_getElem_cons h2,e1,e2]
 simp only [diffFrom,if_true]
 rfl
theorem diff_hit {a b : List Int} {k : Nat} {x y v : Int} (hv : Hid (v = diffFrom (a.drop k) (b.drop k) k)) (ha : Hid (a[k]? = some x)) (hb : Hid (b[k]? = some y)) (h : x ≠ y) : (k : Int) = v := by
 obtain ⟨h1,e1⟩ := List.getElem?_eq_some_iff.1 ha.out
 obtain ⟨h2,e2⟩ := List.getElem?_eq_some_iff.1 hb.out
 rw [hv.out,List.drop_eq_getElem_cons h1,List.drop_eq_getElem_cons h2,e1,e2]
 simp only [diffFrom]
 rw [if_neg h]
theorem diff_end {a b : List Int} {k n m : Nat} {v : Int} (hv : Hid (v = diffFrom (a.drop k) (b.drop k) k)) (ha : Hid (a.length = n)) (hb : Hid (b.length = m)) (h1 : n <= k) (h2 : m <= k) : -1 = v := by
 rw [hv.out,List.drop_eq_nil_of_le (by have := ha.out; omega),List.drop_eq_nil_of_le (by have := hb.out; omega)]
 rfl
theorem diff_short {a b : List Int} {k n m : Nat} {v : Int} (hv : Hid (v = diffFrom (a.drop k) (b.drop k) k)) (ha : Hid (a.length = n)) (hb : Hid (b.length = m)) (h : (n <= k /\ k < m) \/ (m <= k /\ k < n)) : (k : Int) = v := by
 have e1 := ha.out
 have e2 := hb.out
 rcases h with ⟨h1,h2⟩ | ⟨h1,h2⟩
 ·rw [hv.out,List.drop_eq_nil_of_le (by omega),List.drop_eq_getElem_cons (show k < b.length by omega)]
  rfl
 ·rw [hv.out,(show b.drop k = [] from List.drop_eq_nil_of_le (by omega)),List.drop_eq_getElem_cons (show k < a.length by omega)]
  rfl
theorem refDiffer_any (A B : Option Addr) (n m c d : Nat) (a b : List Int) (w : World) (ha : a.length = n) (hb : b.length = m) (h : Rd w 1 A n (iv a)) (h' : Rd w 1 B m (iv b)) (hn : n <= 10000000) (hm : m <= 10000000) :
  Calls Tryz.prog 94 #[.slice A n c,.slice B m d] w fun e w' => e = .returned (.int .i64 (diffL a b)) /\ Below w.heap.size w w' := by
 have HA := hid ha
 have HB := hid hb
 have HR := hid h
 have HR' := hid h'
 clear ha hb h h'
 go_enter Tryz.func94,Tryz.ntmps94
 go_wp2_with fail
 go_loopw [5] (fun i wr => ∃ k : Nat,k <= n + m /\ i = .int .i64 k /\ Below w.heap.size w wr /\ Hid (diffL a b = diffFrom (a.drop k) (b.drop k) k)) (fun i _ => n + m - (intOf i).toNat)
 case atStart => exact ⟨0,by omega,rfl,Below.refl _ _,hid rfl⟩
 case round =>
  obtain ⟨k,hk,rfl,hb,he⟩ := hrel
  by_cases h1 : k < n
  ·by_cases h2 : k < m
   ·obtain ⟨g,o,x,rfl,hbl,hx,c1⟩ := iv_at HA.out (HR.out.below hb) h1
    obtain ⟨g',o',y,rfl,hbl',hy,c2⟩ := iv_at HB.out (HR'.out.below hb) h2
    have HX := hid hx
    have HY := hid hy
    clear hx hy
    have i1 : (0 : Int) <= (k : Int) := by omega
    have i2 : (k : Int) < (n : Int) := by omega
    have i3 : (k : Int) < (m : Int) := by omega
    have g1 : decide (n <= k) = false := decide_eq_false (by omega)
    have g2 : decide (m <= k) = false := decide_eq_false (by omega)
    by_cases hxy : x = y
    ·subst hxy
     go_wp2_with fail
     go_quiet (fail)
     go_wp2
     go_roundw
     case rel => exact ⟨k + 1,by omega,by go_num,below_drewN hb _,diff_on he HX HY⟩
     case measure => simp [intOf]; omega
    ·go_wp2_with fail
     go_quiet (fail)
     go_wp2
     go_ret
     exact ⟨ret_int (diff_hit he HX HY hxy),below_drewN hb _⟩
   ·have g1 : decide (n <= k) = false := decide_eq_false (by omega)
    have g2 : decide (m <= k) = true := decide_eq_true (by omega)
    go_wp2_with fail
    go_quiet (fail)
    go_wp2
    go_ret
    exact ⟨ret_int (diff_short he HA HB (by omega)),below_drewN hb _⟩
  ·by_cases h2 : k < m
   ·have g1 : decide (n <= k) = true := decide_eq_true (by omega)
    go_wp2_with fail
    go_quiet (fail)
    go_wp2
    go_ret
    exact ⟨ret_int (diff_short he HA HB (by omega)),below_drewN hb _⟩
   ·go_wp2
    go_ret
    exact ⟨ret_int (diff_end he HA HB (by omega) (by omega)),hb⟩
theorem refSame_any (A B : Option Addr) (n m c d : Nat) (a b : List Int) (w : World) (ha : a.length = n) (hb : b.length = m) (h : Rd w 1 A n (iv a)) (h' : Rd w 1 B m (iv b)) (hn : n <= 10000000) (hm : m <= 10000000) :
  Calls Tryz.prog 29 #[.slice A n c,.slice B m d] w fun e w' => e = .returned (.bool (decide (a = b))) /\ Below w.heap.size w w' := by
 have HA := hid ha
 have HB := hid hb
 have HR := hid h
 have HR' := hid h'
 clear ha hb h h'
 go_enter Tryz.func29,Tryz.ntmps29
 go_wp2_with fail
 ((with_reducible refine (refDiffer_any A B n m c d a b _ HA.out HB.out HR.out HR'.out (by omega) (by omega)).mono ?_); rintro e w1 ⟨rfl,hb1⟩)
 go_wp2
 go_ret
 exact ⟨ret_bool (same_iff a b),hb1⟩
abbrev In1 (x : Int) : Prop := -9223372036854775808 <= x /\ x <= 9223372036854775807
def mulQ (a b q : Int) : Int := if q < 0 \/ 62 < q then 0 else mulV a b q.toNat
theorem mulQ_in (a b q : Int) : In1 (mulQ a b q) := by
 unfold mulQ mulV wrap64
 split <;> constructor <;> omega
theorem mulQ_any (a b q : Int) (w : World) (ha : In1 a) (hb : In1 b) :
  Calls Tryz.prog 205 #[.int .i64 a,.int .i64 b,.int .i64 q] w fun e w' => e = .returned (.int .i64 (mulQ a b q)) /\ Below w.heap.size w w' := by
 unfold mulQ
 split
 ·rename_i h
  exact mul_none a b q w h
 ·rename_i h
  obtain ⟨k,rfl⟩ := Int.eq_ofNat_of_zero_le (show 0 <= q by omega)
  exact mul_any a b k w ha hb (by omega)
theorem refMulQ_any (a b q : Int) (w : World) (ha : In1 a) (hb : In1 b) :
  Calls Tryz.prog 159 #[.int .i64 a,.int .i64 b,.int .i64 q] w fun e w' => e = .returned (.int .i64 (mulQ a b q)) /\ w = w' := by
 unfold mulQ
 split
 ·rename_i h
  exact refMul_none a b q w h
 ·rename_i h
  obtain ⟨k,rfl⟩ := Int.eq_ofNat_of_zero_le (show 0 <= q by omega)
  exact refMul_any a b k w ha hb (by omega)
theorem only_drew' {a w : World} {row : Option Nat} (h : a.grownBy w row) : a.grownBy w.drew row := ⟨h.os,h.tape,h.output,h.size,h.block⟩
def scaleK (l : List Int) (a q : Int) (k : Nat) : List Int := l.mapIdx fun i x => if i < k then mulQ x a q else x
def scaleL (l : List Int) (a q : Int) : List Int := l.map fun x => mulQ x a q
theorem scaleL_length (l : List Int) (a q : Int) : (scaleL l a q).length = l.length := by simp [scaleL]
theorem scaleK_length (l : List Int) (a q : Int) (k : Nat) : (scaleK l a q k).length = l.length := by simp [scaleK]
theorem scaleK_zero (l : List Int) (a q : Int) : scaleK l a q 0 = l := by
 apply List.ext_getElem?
 intro i
 simp [scaleK]
theorem scaleK_at (l : List Int) (a q : Int) (k : Nat) (x : Int) (h : l[k]? = some x) : (scaleK l a q k)[k]? = some x := by simp [scaleK,h]
theorem scaleK_next (l : List Int) (a q : Int) (k : Nat) (x : Int) (h : l[k]? = some x) : (scaleK l a q k).set k (mulQ x a q) = scaleK l a q (k + 1) := by
 obtain ⟨hk,hx⟩ := List.getElem?_eq_some_iff.1 h
 apply List.ext_getElem?
 intro i
 rw [List.getElem?_set]
 by_cases e : k = i
 ·subst e
  rw [if_pos rfl,if_pos (by rw [scaleK_length]; exact hk)]
  simp only [scaleK,List.getElem?_mapIdx,h,Option.map_some]
  rw [if_pos (by omega)]
 ·rw [if_neg e]
  simp only [scaleK,List.getElem?_mapIdx]
  cases l[i]? with
  | none => rfl
  | some y =>
   simp only [Option.map_some]
   congr 1
   by_cases h1 : i < k
   ·rw [if_pos h1,if_pos (by omega)]
   ·rw [if_neg h1,if_neg (by omega)]
theorem scaleK_done (l : List Int) (a q : Int) (k : Nat) (h : l.length <= k) : scaleK l a q k = scaleL l a q := by
 apply List.ext_getElem?
 intro i
 simp only [scaleK,scaleL,List.getElem?_mapIdx,List.getElem?_map]
 by_cases hi : i < l.length
 ·rw [List.getElem?_eq_getElem hi]
  simp only [Option.map_some]
  rw [if_pos (by omega)]
 ·rw [List.getElem?_eq_none (by omega)]
  rfl
theorem scale_any (A : Option Addr) (n c : Nat) (a q : Int) (l : List Int) (w : World) (hn : n <= 10000000) (hl : l.length = n) (h : Rd w 1 A n (iv l)) (hx : ∀ x ∈ l,In1 x) (ha : In1 a) :
  Calls Tryz.prog 220 #[.slice A n c,.int .i64 a,.int .i64 q] w (OwnRet w 2 1 n (iv (scaleL l a q))) := by
 have HL := hid hl
 have HR := hid h
 have HX := hid (And.intro hx ha)
 clear hl h hx ha
 go_enter Tryz.func220,Tryz.ntmps220
 go_wp2_with fail
 ((with_reducible refine (vecClone_any A n c l _ HL.out HR.out (by omega)).mono ?_); rintro e W ⟨A',cap',rfl,hown,hbW⟩)
 have HO := hid hown
 clear hown
 go_wp2_with fail
 go_loopw [14] (fun i wr => ∃ k : Nat,k <= n /\ i = .int .i64 k /\ Hid (wr.ownsRow w.heap.size 2 1 (.slice A' n cap') n (iv (scaleK l a q k))) /\ Below w.heap.size w wr) (fun i _ => n - (intOf i).toNat)
 case atStart => exact ⟨0,by omega,rfl,by rw [scaleK_zero]; exact HO,hbW⟩
 case round =>
  clear HO hbW
  obtain ⟨k,hk,rfl,hO,hb⟩ := hrel
  by_cases hlt : k < n
  ·obtain ⟨_,_,hv,_,_,hf⟩ := own_form hO.out
   injection hv with hA _ hC
   subst hA hC
   obtain ⟨g,rfl,hg1,hg2⟩ := hf (by omega)
   have hkl : k < l.length := by rw [HL.out]; exact hlt
   have c1 : wr.cell? ⟨g,k,none⟩ = some (.int .i64 l[k]) := by
    rw [hO.out.cellAt k (by omega)]
    unfold iv
    rw [List.getElem?_map,scaleK_at l a q k _ (List.getElem?_eq_getElem hkl)]
    rfl
   have HXk := hid (List.getElem?_eq_getElem hkl)
   have bx := hid (HX.out.1 _ (List.getElem_mem hkl))
   generalize l[k] = x at *
   clear hf hkl
   go_wp2_with fail
   ((with_reducible refine (mulQ_any x a q _ bx.out HX.out.2).mono ?_); rintro e w2 ⟨rfl,hb2⟩)
   have hO2 := own_below hO.out hb2
   have f1 := hO2.frozenAt k
   have c2 : w2.cell? ⟨g,k,none⟩ = some (.int .i64 x) := by rw [hb2.cell (p := ⟨g,k,none⟩) hg2]; exact c1
   obtain ⟨hst,hgr⟩ := hO2.stored k (.int .i64 (mulQ x a q))
   rw [iv_set,scaleK_next l a q k x HXk.out] at hst
   have HST := hid hst
   have hb2' := hb.trans (hb2.mono hb.size)
   have hb3 := hid (hb2'.grown hgr hb2'.size (fun k e => by cases e; exact hg1))
   clear hb2 hO2 hst hgr hO hb c1
   go_wp2
   go_roundw
   case rel => exact ⟨k + 1,by omega,by go_num,HST,hb3.out⟩
   case measure => simp [intOf]; omega
  ·obtain rfl : k = n := by omega
   rw [scaleK_done l a q k (by have := HL.out; omega)] at hO
   go_wp2
   go_ret
   exact ⟨_,_,rfl,hO.out,hb⟩
theorem add_any (A B : Option Addr) (g o n c d N cap base : Nat) (xs ys : List Int) (w : World) (hA : 0 < n -> A = some ⟨g,o,none⟩) (hN : o + n <= N) (hN2 : N <= 10000000) (hxl : xs.length = N) (hyl : ys.length = n)
  (hown : w.ownsRow base 2 1 (.slice (some ⟨g,0,none⟩) N cap) N (iv xs)) (hy : Rd w 1 B n (iv ys)) (hne : ∀ b o',B = some ⟨b,o',none⟩ -> 0 < n -> b ≠ g) :
  Calls Tryz.prog 25 #[.slice A n c,.slice B n d] w fun e w' => e = .returned (.bool true) /\ w'.ownsRow base 2 1 (.slice (some ⟨g,0,none⟩) N cap) N (iv (addAt xs o ys n)) /\ w.grownBy w' (some g) := by
 have HA := hid hA
 have HXL := hid hxl
 have HYL := hid hyl
 have HO := hid hown
 have HY := hid hy
 have HNE := hid hne
 clear hA hxl hyl hown hy hne
 go_enter Tryz.func25,Tryz.ntmps25
 go_wp2_with fail
 go_loopw [13] (fun i wr => ∃ k : Nat,k <= n /\ i = .int .i64 k /\ wr.ownsRow base 2 1 (.slice (some ⟨g,0,none⟩) N cap) N (iv (addAt xs o ys k)) /\ w.grownBy wr (some g)) (fun i _ => n - (intOf i).toNat)
 case atStart => exact ⟨0,by omega,rfl,by rw [addAt_zero]; exact HO.out,World.grownBy.refl _ _⟩
 case round =>
  obtain ⟨k,hk,rfl,hown,hg⟩ := hrel
  by_cases hlt : k < n
  ·obtain rfl := HA.out (by omega)
   obtain ⟨b,o',rfl,hbl,hcy⟩ := HY.out.2 (by omega)
   have hbg := HNE.out b o' rfl (by omega)
   have hky : k < ys.length := by rw [HYL.out]; exact hlt
   have hkx : o + k < xs.length := by rw [HXL.out]; omega
   have c2 : wr.cell? ⟨b,o' + k,none⟩ = some (.int .i64 ys[k]) := hg.cell (hcy k _ (iv_get ys k hky)) (by simp [hbg])
   have c1 : wr.cell? ⟨g,o + k,none⟩ = some (.int .i64 xs[o + k]) := by
    rw [hown.cellAt (o + k) (by omega)]
    unfold iv
    rw [List.getElem?_map,addAt_at xs o ys k _ (List.getElem?_eq_getElem hkx)]
    rfl
   have f1 := hown.frozenAt (o + k)
   have HX := hid (List.getElem?_eq_getElem hkx)
   have HYk := hid (List.getElem?_eq_getElem hky)
   generalize xs[o + k] = x at *
   generalize ys[k] = y at *
   have HOw := hid hown
   have HG := hid hg
   have i1 : (k : Int) < (n : Int) := by omega
   have i3 : (0 : Int) <= (k : Int) := by omega
   clear hown hg hcy hkx hky hbl
   go_wp2_with fail
   go_region
   go_wp2
   go_roundw
   case rel => exact ⟨k + 1,by omega,by go_num,by rw [<- addAt_next xs o ys k x y HX.out HYk.out,<- iv_set]; exact (HOw.out.stored (o + k) _).1,HG.out.trans (only_drew' (HOw.out.stored (o + k) _).2)⟩
   case measure => simp [intOf]; omega
  ·obtain rfl : k = n := by omega
   go_wp2
   go_ret
   exact ⟨rfl,hown,hg⟩
theorem add_zero (A B : Option Addr) (c d : Nat) (w : World) :
  Calls Tryz.prog 25 #[.slice A 0 c,.slice B 0 d] w fun e w' => e = .returned (.bool true) /\ w = w' := by
 go_enter Tryz.func25,Tryz.ntmps25
 go_wp2_with fail
 go_loop [13] (fun i => i = .int .i64 0) (fun _ => 0)
 case atStart => rfl
 case round =>
  obtain rfl := hrel
  go_wp2
  go_ret
  exact ⟨rfl,rfl⟩
def SumRet (w : World) (r : Option (List Int)) (e : Ending) (w' : World) : Prop :=
 match r with
 | none => e = .returned (.tuple #[.slice none 0 0,.bool false]) /\ Below w.heap.size w w'
 | some z => ∃ A cap,e = .returned (.tuple #[.slice A z.length cap,.bool true]) /\ w'.ownsRow w.heap.size 2 1 (.slice A z.length cap) z.length (iv z) /\ Below w.heap.size w w'
theorem sumRet_some {w W : World} {r : Option (List Int)} {z : List Int} {A : Option Addr} {n cap : Nat} (h : r = some z) (hl : Hid (z.length = n)) (ho : Hid (W.ownsRow w.heap.size 2 1 (.slice A n cap) n (iv z))) (hb : Below w.heap.size w W) :
  SumRet w r (.returned (.tuple #[.slice A n cap,.bool true])) W := by
 subst h
 have := hl.out
 subst this
 exact ⟨A,cap,rfl,ho.out,hb⟩
theorem sumRet_none {w W : World} {r : Option (List Int)} (h : r = none) (hb : Below w.heap.size w W) : SumRet w r (.returned (.tuple #[.slice none 0 0,.bool false])) W := by
 subst h
 exact ⟨rfl,hb⟩
theorem addL_zeros (z : List Int) (h : ∀ x ∈ z,-9223372036854775808 <= x /\ x <= 9223372036854775807) : addL (List.replicate z.length 0) z = z := by
 apply List.ext_getElem?
 intro i
 unfold addL
 rw [addAt_get]
 by_cases hi : i < z.length
 ·rw [List.getElem?_replicate,if_pos hi,List.getElem?_eq_getElem hi]
  have := h z[i] (List.getElem_mem hi)
  simp [hi,List.getD,List.getElem?_eq_getElem hi]
  unfold wrap64
  omega
 ·rw [List.getElem?_eq_none (by simpa using hi),List.getElem?_eq_none (by omega)]
  rfl
theorem sumL_zeros (zs : List (List Int)) (z : List Int) (hz : zs[0]? = some z) (h : ∀ x ∈ z,-9223372036854775808 <= x /\ x <= 9223372036854775807) : sumL zs = sumFrom (List.replicate z.length 0) (zs.drop 0) := by
 rw [sumL_first zs z hz,sumFrom_step _ zs 0 z hz (by simp),addL_zeros z h]
theorem iv_zeros_VecR (n : Nat) : iv (List.replicate n 0) = List.replicate n (.int .i64 0) := by simp [iv]
theorem addL_is (x y : List Int) (n : Nat) (h : x.length = n) : addAt x 0 y n = addL x y := by unfold addL; rw [h]
theorem refSum_any (A : Option Addr) (n cap : Nat) (ss : List (Option Addr × Nat × Nat)) (zs : List (List Int)) (w : World) (hl : ss.length = n) (hn1 : 1 <= n) (hn : n <= 10000000) (h : Rd w 1 A n (ss.map slv)) (hv : RdV w ss zs) (hz : ∀ z ∈ zs,z.length <= 10000000) (hx : ∀ z ∈ zs,∀ x ∈ z,-9223372036854775808 <= x /\ x <= 9223372036854775807) :
  Calls Tryz.prog 89 #[.slice A n cap] w (SumRet w (sumL zs)) := by
 have HL := hid hl
 have HR := hid h
 have HV := hid hv
 have HZ := hid hz
 obtain ⟨b,o,A0,n0,c0,z0,rfl,hbl,hs0,hz0,c1,hzl,hr0⟩ := sv_at hl h hv (show 0 < n by omega)
 have HZ0 := hid (sumL_zeros zs z0 hz0 (hx z0 (List.mem_of_getElem? hz0)))
 rw [hzl] at HZ0
 have hn0 : n0 <= 10000000 := by rw [<- hzl]; exact hz z0 (List.mem_of_getElem? hz0)
 have d1 : ((n : Int) == 0) = false := by simp; omega
 clear hl h hv hz hz0 hs0 hzl hr0 hx
 rw [Nat.add_zero] at c1
 obtain ⟨i0,hi0,q0,q1,q2⟩ := info_parts slI64.info
 go_enter Tryz.func89,Tryz.ntmps89
 go_wp2_with (at_make; go_must (refine wpList_make_full w rfl _ _ _ rfl w.heap.size 2 i0 (.int .i64 0) 1 slI64.slice hi0 q0 q1 .i64 .i64 _ _ n0 rfl rfl rfl rfl (by rw [q2]; omega) (by unfold maxLen; omega) (Nat.le_refl _) ?_); intro W hown hg1)
 have hbW : Below w.heap.size w W := (Below.refl _ _).grown hg1 (Nat.le_refl _) (by simp)
 have HO : Hid (W.ownsRow w.heap.size 2 1 (.slice (some ⟨w.heap.size,0,none⟩) n0 n0) n0 (iv (List.replicate n0 0))) := hid (by
  rw [iv_zeros_VecR,<- toList_madeCells_one]
  have e : (madeCells (Value.int .i64 0).cells (n0 * 1)) = madeCells #[.int .i64 0] n0 := by rw [Nat.mul_one]; rfl
  rw [<- e]
  exact hown)
 clear hown hg1 c1
 go_loopw [5] (fun i wr => ∃ (k : Nat) (acc : List Int),k <= n /\ i = .int .i64 k /\ Hid (acc.length = n0) /\ Hid (wr.ownsRow w.heap.size 2 1 (.slice (some ⟨w.heap.size,0,none⟩) n0 n0) n0 (iv acc)) /\ Below w.heap.size w wr /\ Hid (sumL zs = sumFrom acc (zs.drop k))) (fun i _ => n - (intOf i).toNat)
 case atStart => exact ⟨0,List.replicate n0 0,by omega,rfl,hid (by simp),HO,hbW,HZ0⟩
 case round =>
  clear HO hbW
  obtain ⟨k,acc,hk,rfl,hacc,hO,hb,he⟩ := hrel
  by_cases hlt : k < n
  ·obtain ⟨b',o',As,ns,cs,z,e1,hbl',hss,hzk,c2,hzl,hrz⟩ := sv_at HL.out HR.out HV.out hlt
   injection e1 with e1
   injection e1 with e2 e3
   subst e2 e3
   have HZK := hid hzk
   have HZl := hid hzl
   have HRZ := hid hrz
   have hns : ns <= 10000000 := by rw [<- hzl]; exact HZ.out z (List.mem_of_getElem? hzk)
   have c3 : wr.cell? ⟨b,o + k,none⟩ = some (.slice As ns cs) := (hb.cell (p := ⟨b,o + k,none⟩) hbl).trans c2
   have C2 := hid c2
   clear hzk hzl hrz hss c2
   by_cases hnn : ns = n0
   ·have d2 : ((ns : Int) != (n0 : Int)) = false := by simp [hnn]
    have HNN := hid hnn
    clear hnn
    obtain ⟨wo,rfl⟩ : ∃ wo : World,wo = wr := ⟨_,rfl⟩
    go_wp2_with fail
    go_loopw [6] (fun i wr => ∃ j : Nat,j <= n0 /\ i = .int .i64 j /\ Hid (wr.ownsRow w.heap.size 2 1 (.slice (some ⟨w.heap.size,0,none⟩) n0 n0) n0 (iv (addAt acc 0 z j))) /\ Below w.heap.size w wr) (fun i _ => n0 - (intOf i).toNat)
    case atStart => exact ⟨0,by omega,rfl,hid (by rw [addAt_zero]; exact hO.out),hb⟩
    case round =>
     clear hO hb c3
     obtain ⟨j,hj,rfl,hO,hb⟩ := hrel
     by_cases hlt2 : j < n0
     ·have hns2 : j < ns := by have := HNN.out; omega
      obtain ⟨b1,o1,y,rfl,hbl1,hy,c4⟩ := iv_at HZl.out HRZ.out hns2
      have c5 : wr.cell? ⟨b,o + k,none⟩ = some (.slice (some ⟨b1,o1,none⟩) ns cs) := (hb.cell (p := ⟨b,o + k,none⟩) hbl).trans C2.out
      have c6 : wr.cell? ⟨b1,o1 + j,none⟩ = some (.int .i64 y) := (hb.cell (p := ⟨b1,o1 + j,none⟩) hbl1).trans c4
      obtain ⟨x,hx⟩ : ∃ x,acc[0 + j]? = some x := ⟨_,List.getElem?_eq_getElem (by rw [hacc.out]; omega)⟩
      have c7 : wr.cell? ⟨w.heap.size,j,none⟩ = some (.int .i64 x) := by
       rw [hO.out.cellAt j (by omega)]
       unfold iv
       have := addAt_at acc 0 z j x hx
       rw [Nat.zero_add] at this
       rw [List.getElem?_map,this]
       rfl
      have f7 := hO.out.frozenAt j
      have HX := hid hx
      have HY := hid hy
      have i1 : (0 : Int) <= (j : Int) := by omega
      have i2 : (j : Int) < (n0 : Int) := by omega
      have i3 : (j : Int) < (ns : Int) := by omega
      have i4 : (0 : Int) <= (k : Int) := by omega
      have i5 : (k : Int) < (n : Int) := by omega
      clear hy hx c4
      go_wp2_with fail
      go_region
      go_wp2
      go_roundw
      case rel => exact ⟨j + 1,by omega,by go_num,hid (by rw [<- addAt_next acc 0 z j x y HX.out HY.out,<- iv_set,Nat.zero_add]; exact (hO.out.stored j _).1),(hb.setCell (p := ⟨w.heap.size,j,none⟩) (Nat.le_refl _) _).drew⟩
      case measure => simp [intOf]; omega
     ·obtain rfl : j = n0 := by omega
      go_wp2
      go_roundw
      case rel => exact ⟨k + 1,addL acc z,by omega,by go_num,hid (by rw [addL_length]; exact hacc.out),hid (by rw [<- addL_is acc z j hacc.out]; exact hO.out),hb,hid (by rw [he.out]; exact sumFrom_step acc zs k z HZK.out (by rw [HZl.out,hacc.out]; exact HNN.out))⟩
      case measure => simp [intOf]; omega
   ·have d2 : ((ns : Int) != (n0 : Int)) = true := by simp; omega
    go_wp2
    go_ret2
    refine sumRet_none ?_ hb
    rw [he.out]
    exact sumFrom_stop acc zs k z HZK.out (by rw [HZl.out,hacc.out]; exact hnn)
  ·go_wp2
   go_ret2
   refine sumRet_some ?_ hacc hO hb
   rw [he.out]
   exact sumFrom_end _ _ _ (by rw [<- HV.out.1,HL.out]; omega)
def pcA_RedMove (A : Option Addr) (c e : Nat) : Option Addr := if c = e then A else A.map (·.add (e * 1))
theorem own_cap {w : World} {base n c : Nat} {t : TypeId} {A : Option Addr} {xs : List Value} (h : w.ownsRow base t 1 (.slice A n c) n xs) : n <= c := by
 rcases h.2 with ⟨h1,h2⟩ | ⟨g,cap,cur,h1,_,_,h2,_⟩
 ·omega
 ·injection h1 with _ _ h3
  omega
theorem own_some {w : World} {base n c : Nat} {t : TypeId} {A : Option Addr} {xs : List Value} (h : w.ownsRow base t 1 (.slice A n c) n xs) (h0 : 0 < n) : ∃ g,A = some ⟨g,0,none⟩ := by
 rcases h.2 with ⟨h1,h2⟩ | ⟨g,cap,cur,h1,_,_,h2,_⟩
 ·omega
 ·injection h1 with h3
  exact ⟨g,h3⟩
theorem pc_at {w : World} {base n c e k : Nat} {t : TypeId} {A : Option Addr} {xs : List Value} (h : w.ownsRow base t 1 (.slice A n c) n xs) (hk : 0 < k) (he : e + k <= n) : ∃ g,A = some ⟨g,0,none⟩ /\ pcA_RedMove A c e = some ⟨g,e,none⟩ := by
 obtain ⟨g,rfl⟩ := own_some h (by omega)
 have hc := own_cap h
 refine ⟨g,rfl,?_⟩
 unfold pcA_RedMove
 rw [if_neg (by omega),Option.map_some]
 congr 1
 unfold Addr.add
 by_cases h0 : e = 0 <;> simp [h0]
theorem pc_rd {w : World} {base n c e k : Nat} {A : Option Addr} {L : List Int} (h : w.ownsRow base 2 1 (.slice A n c) n (iv L)) (hL : L.length = n) (he : e + k <= n) : Rd w 1 (pcA_RedMove A c e) k (iv ((L.drop e).take k)) := by
 refine ⟨by simp [iv]; omega,fun h0 => ?_⟩
 obtain ⟨g,hA,hp⟩ := pc_at (e := e) h h0 he
 subst hA
 obtain ⟨b,o,e1,hlt,hcell⟩ := (Rd.of_own h).2 (by omega)
 injection e1 with e1
 injection e1 with e1 e2
 subst e1 e2
 refine ⟨g,e,hp,hlt,fun j u hu => ?_⟩
 rw [iv,List.getElem?_map,List.getElem?_take] at hu
 split at hu
 ·rw [List.getElem?_drop] at hu
  have := hcell (e + j) u (by rw [iv,List.getElem?_map]; exact hu)
  rwa [Nat.zero_add] at this
 ·cases hu
end
section
open Go.RowKit
variable (A : Option Addr) (N c e k c1 : Nat) (L : List Int) (B : Option Addr) (d : Nat) (ys : List Int) (base : Nat) (w : World)
theorem addP_any_RedMove (hown : w.ownsRow base 2 1 (.slice A N c) N (iv L)) (hL : L.length = N) (hN2 : N <= 10000000) (he : e + k <= N) (hyl : ys.length = k) (hy : Rd w 1 B k (iv ys))
  (hne : ∀ b o',B = some ⟨b,o',none⟩ -> 0 < k -> (Value.slice A N c).ownBlock ≠ some b) :
  Calls Tryz.prog 25 #[.slice (pcA_RedMove A c e) k c1,.slice B k d] w fun e' w' => e' = .returned (.bool true) /\ w'.ownsRow base 2 1 (.slice A N c) N (iv (addAt L e ys k)) /\ w.grownBy w' (Value.slice A N c).ownBlock := by
 rcases Nat.eq_zero_or_pos k with h0 | h0
 ·subst h0
  refine (add_zero (pcA_RedMove A c e) B c1 d w).mono ?_
  rintro e' w' ⟨rfl,rfl⟩
  exact ⟨rfl,by rw [addAt_zero]; exact hown,World.grownBy.refl _ _⟩
 ·obtain ⟨g,rfl,hp⟩ := pc_at (e := e) hown h0 he
  refine add_any (pcA_RedMove (some ⟨g,0,none⟩) c e) B g e k c1 d N c base L ys w (fun _ => hp) he hN2 hL hyl hown hy ?_
  intro b o' hB hk hbg
  exact hne b o' hB hk (by rw [hbg]; rfl)
end
section
open Go.RowKit
theorem wpList_copy_piece {P : Program} {w : World} {ops : Array Oper} {rest : List Oper} {o : Oper} {a : Act} {Q : Exit -> Act -> World -> Prop} (hgd : o.guard = none) (d s : Operand) (dT sT : TypeId)
  (ho : o.op = .call { callee := .builtin .copy,args := #[d,s],argTypes := #[dT,sT] }) (hu : P.underlying dT = some (.slice 2)) (hsz : (P.info? 2).map (·.size) = some 1)
  (A : Option Addr) (N c e k c1 : Nat) (L : List Int) (B : Option Addr) (d1 : Nat) (ys : List Int) (base : Nat)
  (P1 : Option Addr) (hP1 : pcA_RedMove A c e = P1) (hd : a.eval d = .slice P1 k c1) (hs : a.eval s = .slice B k d1)
  (hown : w.ownsRow base 2 1 (.slice A N c) N (iv L)) (hL : L.length = N) (he : e + k <= N) (hyl : ys.length = k) (hy : Rd w 1 B k (iv ys))
  (h : ∀ w',w'.ownsRow base 2 1 (.slice A N c) N (iv (L.take e ++ (ys ++ L.drop (e + k)))) -> w.grownBy w' (Value.slice A N c).ownBlock -> wpList P ops Q rest (a.put o.dst (goInt k)) w') :
  wpList P ops Q (o :: rest) a w := by
 subst hP1
 rcases Nat.eq_zero_or_pos k with h0 | h0
 ·subst h0
  have hy0 : ys = [] := List.eq_nil_of_length_eq_zero hyl
  refine wpList_copy_nothing hgd d s dT sT ho 2 hu hsz _ _ 0 c1 0 d1 hd hs rfl (h w ?_ (World.grownBy.refl _ _))
  rw [hy0,List.nil_append,Nat.add_zero,List.take_append_drop]
  exact hown
 ·obtain ⟨g,rfl,hp⟩ := pc_at (e := e) hown h0 he
  rw [hp] at hd
  obtain ⟨b,o',rfl,hlt,hcell⟩ := hy.2 h0
  rcases hown.2 with ⟨h1,h2⟩ | ⟨g',cap,cur,h1,hbg,hh,hnc,hcm,hcs,htk⟩
  ·omega
  ·injection h1 with h1 h3 h4
   injection h1 with h1
   injection h1 with h1
   subst h1 h4
   rw [Nat.mul_one] at hcs htk
   have hcl : cur.toList.length = c := by rw [Array.length_toList]; exact hcs
   have hivl : (iv ys).length = k := by simp [iv,hyl]
   have hgy : w.grownBy (w.setRow g (cur.toList.take e ++ (iv ys ++ cur.toList.drop (e + (iv ys).length))).toArray) (some g) := ⟨rfl,rfl,rfl,by simp,fun k' _ hk => setRow_other w g k' _ (fun e' => hk (by rw [e']))⟩
   have hH := setRow_heap w g cur (cur.toList.take e ++ (iv ys ++ cur.toList.drop (e + (iv ys).length))).toArray 2 (0,0) hh
   refine wpList_copy_own hgd d s dT sT ho 2 hu hsz g e k c1 ⟨b,o',none⟩ k d1 hd hs cur 2 hh (iv ys) (by rw [hivl]; exact (Nat.min_self k).symm) (fun j v hj => ?_) (by rw [hivl]; omega) (iv_one ys) ?_
   ·have := hcell j v hj
    have e1 : (⟨b,o',none⟩ : Addr).add j = ⟨b,o' + j,none⟩ := by unfold Addr.add; by_cases hj0 : j = 0 <;> simp [hj0]
    rw [e1]
    exact this
   ·rw [show goInt (iv ys).length = goInt k by rw [hivl]]
    refine h _ ⟨?_,.inr ⟨g,c,_,rfl,hbg,hH,hnc,hcm,?_,?_⟩⟩ hgy
    ·simp [iv,hyl,hL]; omega
    ·simp [hivl,hcs]; omega
    ·rw [Nat.mul_one,hivl,List.toList_toArray]
     have hLt : iv L = cur.toList.take N := htk.symm
     have hm : ∀ (l : List Int) (a : Nat),iv (l.take a) = (iv l).take a := fun l a => by simp [iv]
     have hm2 : ∀ (l : List Int) (a : Nat),iv (l.drop a) = (iv l).drop a := fun l a => by simp [iv]
     have hm3 : ∀ (l l' : List Int),iv (l ++ l') = iv l ++ iv l' := fun l l' => by simp [iv]
     rw [hm3,hm3,hm,hm2,hLt,List.take_take,List.drop_take,Nat.min_eq_left (by omega)]
     rw [List.take_append,List.take_of_length_le (by simp; omega),List.take_append,List.take_of_length_le (l := iv ys) (by simp [hivl,hcl]; omega)]
     simp [hivl,hcl]
     rw [Nat.min_eq_left (show e <= c by omega),show N - e - k = N - (e + k) by omega]
theorem run_piece {P : Program} {T : TypeId} {A : Option Addr} {n c e e2 k c1 : Nat} {P1 : Option Addr} (hT : P.underlying T = some (.slice (P.elem T))) (hz : ∀ W,(sizeOf (P.elem T)).run P W = .ok 1 W) (he : e <= e2) (h2 : e2 <= c) (hk : e2 - e = k) (hc : c - e = c1) (hP : pcA_RedMove A c e = P1) (W : World) :
  (Instr.slice T (.slice A n c) (some (.int .i64 e)) (some (.int .i64 e2)) none).run P W = .ok (.slice P1 k c1) W := by
 rw [run_slice_lh W T A n c hT .i64 .i64 e e2 (by omega) (by omega) (by omega),hz]
 subst hk hc hP
 rfl
abbrev zeros (n : Nat) : List Int := List.replicate n 0
theorem iv_zeros (n : Nat) : (madeCells (Value.int .i64 0).cells (n * 1)).toList = iv (zeros n) := by
 rw [Nat.mul_one]
 exact (toList_madeCells_one _ _).trans (by simp [iv,zeros])
def GridRet (w : World) (r q n : Nat) (en : Ending) (w' : World) : Prop :=
 ∃ A c,en = .returned (.agg #[.int .i64 r,.int .i64 q,.slice A n c]) /\ w'.ownsRow w.heap.size 2 1 (.slice A n c) n (iv (zeros n)) /\ Below w.heap.size w w'
theorem set3 {w : World} {g : Nat} {t : TypeId} {x y z : Value} (h : Blk w g t #[x,y,z]) (a b c : Value) :
  w.grownBy (((w.setCell ⟨g,0,none⟩ a).setCell ⟨g,1,none⟩ b).setCell ⟨g,2,none⟩ c) (some g) /\ Blk (((w.setCell ⟨g,0,none⟩ a).setCell ⟨g,1,none⟩ b).setCell ⟨g,2,none⟩ c) g t #[a,b,c] :=
 ⟨gr_set (p := ⟨g,2,none⟩) (gr_set (p := ⟨g,1,none⟩) (gr_set (p := ⟨g,0,none⟩) (World.grownBy.refl w _) (.inl rfl) a) (.inl rfl) b) (.inl rfl) c,by simpa using ((h.set_ 0 a).set_ 1 b).set_ 2 c⟩
end
end Go.Proofs.YtkmaeipoaoikpaaGreat
