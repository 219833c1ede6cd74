/- Draw2, PermShuf, SmpNew1, SmpShuf. -/
import Derived.Test.YtkmaeipoaoikpaaGreatEB22
namespace Go.Proofs.YtkmaeipoaoikpaaGreat
set_option linter.all false
set_option maxRecDepth 100000
set_option maxHeartbeats 4000000
open Lib (hid)
section
open Go.RowKit
theorem uone_int (x : Int) : ∀ u ∈ (#[Value.int .i64 x] : Array Value).toList,u.oneCell' = true := by
 intro u hu
 simp at hu
 subst hu
 rfl
def anyLow (bs : List Int) : Bool := bs.any fun x => decide (x < 1)
theorem low_here {bs : List Int} {k : Nat} {x : Int} (h : bs[k]? = some x) (hx : x < 1) : anyLow bs = true := by
 unfold anyLow
 rw [List.any_eq_true]
 exact ⟨x,List.mem_of_getElem? h,by simpa using hx⟩
theorem low_none {bs : List Int} {n : Nat} (hl : bs.length = n) (h : ∀ j x,j < n -> bs[j]? = some x -> 1 <= x) : anyLow bs = false := by
 unfold anyLow
 rw [List.any_eq_false]
 intro x hx
 obtain ⟨i,hi,rfl⟩ := List.mem_iff_getElem.1 hx
 have := h i _ (by omega) (List.getElem?_eq_getElem hi)
 simp; omega
def IdxRet (bs : List Int) (w : World) (e : Ending) (w' : World) : Prop := ∃ v : Int,e = .returned (.int .i64 v) /\ decide (0 <= v) = anyLow bs /\ w = w'
theorem indexFunc_any (A : Option Addr) (n cap : Nat) (bs : List Int) (w : World) (hl : bs.length = n) (h : Rd w 1 A n (iv bs)) (hn : n <= 9223372036854775807) :
  Calls Tryz.prog 180 #[.slice A n cap,.func (.func 214) #[] #[]] w (IdxRet bs w) := by
 have HL := hid hl
 have HR := hid h
 clear hl h
 go_enter Tryz.func180,Tryz.ntmps180
 go_wp2_with fail
 go_loop [8] (fun c => ∃ k : Nat,k <= n /\ c = .int .i64 k /\ Hid (∀ j x,j < k -> bs[j]? = some x -> 1 <= x)) (fun c => n - (intOf c).toNat)
 case atStart => exact ⟨0,by omega,rfl,hid (fun j x h => by omega)⟩
 case round =>
  obtain ⟨k,hk,rfl,he⟩ := hrel
  by_cases hlt : k < n
  ·obtain ⟨b,o,x,rfl,hbl,hx,c1⟩ := iv_at HL.out HR.out hlt
   have HX := hid hx
   clear hx
   by_cases hlow : x < 1
   ·go_wp2
    go_ret
    exact ⟨k,rfl,by rw [low_here HX.out hlow]; simp,rfl⟩
   ·go_wp2
    go_round
    case rel =>
     refine ⟨k + 1,by omega,by go_num,hid (fun j y hj hy => ?_)⟩
     by_cases hjk : j < k
     ·exact he.out j y hjk hy
     ·obtain rfl : j = k := by omega
      rw [HX.out] at hy
      injection hy with hy
      omega
    case measure => simp [intOf]; omega
  ·obtain rfl : k = n := by omega
   go_wp2
   go_ret
   exact ⟨-1,rfl,by rw [low_none HL.out he.out]; rfl,rfl⟩
theorem containsFunc_any (A : Option Addr) (n cap : Nat) (bs : List Int) (w : World) (hl : bs.length = n) (h : Rd w 1 A n (iv bs)) (hn : n <= 9223372036854775807) :
  Calls Tryz.prog 102 #[.slice A n cap,.func (.func 214) #[] #[]] w fun e w' => e = .returned (.bool (anyLow bs)) /\ w = w' := by
 have HL := hid hl
 have HR := hid h
 clear hl h
 go_enter Tryz.func102,Tryz.ntmps102
 go_wp2_with fail
 ((with_reducible refine (indexFunc_any A n cap bs _ HL.out HR.out hn).mono ?_); rintro e w1 ⟨v,rfl,hv,rfl⟩)
 have HV := hid hv
 clear hv
 go_wp2_with fail
 go_ret
 exact ⟨ret_bool HV.out,rfl⟩
def manyL (L : List Int) (k : Nat) (bs : List Int) : List Int := List.zipWith (fun x m => x % m) (L.drop k) bs
theorem manyL_length (L : List Int) (k : Nat) (bs : List Int) (h : bs.length <= L.length - k) : (manyL L k bs).length = bs.length := by
 simp [manyL]; omega
theorem manyL_get (L : List Int) (k : Nat) (bs : List Int) (j : Nat) (x m : Int) (hx : L[k + j]? = some x) (hm : bs[j]? = some m) : (manyL L k bs)[j]? = some (x % m) := by
 unfold manyL
 rw [List.getElem?_zipWith,List.getElem?_drop,hx,hm]
theorem iv_take_snoc (l : List Int) (k : Nat) (x : Int) (h : l[k]? = some x) : iv (l.take (k + 1)) = iv (l.take k) ++ [.int .i64 x] := by
 obtain ⟨hk,hx⟩ := List.getElem?_eq_some_iff.1 h
 rw [List.take_succ_eq_append_getElem hk,iv_append,hx]
 rfl
theorem many_none (b : Nat) (A B : Option Addr) (n cap k m d : Nat) (bs : List Int) (w : World) (h : Blk w b 299 #[.slice A n cap,.int .i64 k]) (hk : k <= n) (hn : n <= 9223372036854775807) (hl : bs.length = m) (hr : Rd w 1 B m (iv bs)) (hm : m <= 9223372036854775807)
  (hno : n - k < m \/ anyLow bs = true) :
  Calls Tryz.prog 163 #[.pointer (some ⟨b,0,none⟩),.slice B m d] w (Turned w b A n cap k (.tuple #[.slice none 0 0,.bool false])) := by
 have HB := hid h
 have HL := hid hl
 have HR := hid hr
 clear h hl hr
 by_cases hs : n - k < m
 ·have d1 : decide ((n : Int) - (k : Int) < (m : Int)) = true := by simp; omega
  clear hno
  go_enter Tryz.func163,Tryz.ntmps163
  go_wp2_with fail
  ((with_reducible refine (left_any b A n cap k _ HB.out (by omega) hn).mono ?_); rintro e w1 ⟨rfl,q,rfl⟩)
  go_wp2_with fail
  go_ret2
  exact ⟨rfl,gr_drewN (World.grownBy.refl _ _) _,HB.out.drewN _⟩
 ·have d1 : decide ((n : Int) - (k : Int) < (m : Int)) = false := by simp; omega
  have HN : Hid (anyLow bs = true) := hid (by rcases hno with h | h; exact absurd h hs; exact h)
  clear hno
  go_enter Tryz.func163,Tryz.ntmps163
  go_wp2_with fail
  ((with_reducible refine (left_any b A n cap k _ HB.out (by omega) hn).mono ?_); rintro e w1 ⟨rfl,q,rfl⟩)
  go_wp2_with fail
  ((with_reducible refine (containsFunc_any B m d bs _ HL.out (HR.out.drewN _) hm).mono ?_); rintro e w1 ⟨rfl,rfl⟩)
  rw [HN.out]
  go_wp2_with fail
  go_ret2
  exact ⟨rfl,gr_drewN (World.grownBy.refl _ _) _,HB.out.drewN _⟩
def ManyRet (w : World) (b : Nat) (A : Option Addr) (n cap k m : Nat) (l : List Int) (en : Ending) (w' : World) : Prop :=
 ∃ A' c',en = .returned (.tuple #[.slice A' m c',.bool true]) /\ w'.ownsRow w.heap.size 3 1 (.slice A' m c') m (iv l) /\ w.grownBy w' (some b) /\ Blk w' b 299 #[.slice A n cap,.int .i64 k]
theorem many_some (b : Nat) (A B : Option Addr) (n cap k m d : Nat) (L bs : List Int) (w : World) (h : Stm w b A n cap k L) (hn : n <= 10000000) (hl : bs.length = m) (hr : Rd w 1 B m (iv bs)) (hB : ∀ b' o,B = some ⟨b',o,none⟩ -> 0 < m -> b' ≠ b)
  (hfit : k + m <= n) (hlow : anyLow bs = false) (hbd : ∀ x ∈ bs,x <= 9223372036854775807) :
  Calls Tryz.prog 163 #[.pointer (some ⟨b,0,none⟩),.slice B m d] w (ManyRet w b A n cap (k + m) m (manyL L k bs)) := by
 have HL := hid hl
 have HR := hid hr
 have HS := hid h
 have HN := hid hlow
 have HB := hid hB
 have HD := hid hbd
 have hblt := h.blk.lt
 have hkn := h.le
 have d1 : decide ((n : Int) - (k : Int) < (m : Int)) = false := by simp; omega
 have HM : Hid ((manyL L k bs).length = m) := hid (by rw [manyL_length L k bs (by rw [h.len]; omega),hl])
 have hpos : Hid (∀ (j : Nat) (x : Int),bs[j]? = some x -> 1 <= x) := hid (by
  intro j x hx
  rcases Int.lt_or_le x 1 with h1 | h1
  ·rw [low_here hx h1] at hlow; cases hlow
  ·exact h1)
 clear h hl hr hlow hB hbd
 go_enter Tryz.func163,Tryz.ntmps163
 go_wp2_with fail
 ((with_reducible refine (left_any b A n cap k _ HS.out.blk (by omega) (by omega)).mono ?_); rintro e w1 ⟨rfl,q,rfl⟩)
 go_wp2_with fail
 ((with_reducible refine (containsFunc_any B m d bs _ HL.out (HR.out.drewN _) (by omega)).mono ?_); rintro e w1 ⟨rfl,rfl⟩)
 rw [HN.out]
 go_wp2_with fail
 go_loopw [6,26] (fun v c wr => ∃ j : Nat,j <= m /\ c = .int .i64 j /\ (∃ A' c',v = .slice A' j c') /\ wr.ownsRow w.heap.size 3 1 v j (iv ((manyL L k bs).take j)) /\ w.grownBy wr (some b) /\ Blk wr b 299 #[.slice A n cap,.int .i64 ((k + j : Nat) : Int)]) (fun _ c _ => m - (intOf c).toNat)
 case atStart => exact ⟨0,by omega,rfl,⟨none,0,rfl⟩,by simpa [iv] using World.ownsRow_nil _ _ _ _,gr_drewN (World.grownBy.refl _ _) _,HS.out.blk.drewN _⟩
 case round =>
  obtain ⟨j,hj,rfl,⟨A',c',rfl⟩,hown,hg,hblk⟩ := hrel
  by_cases hlt : j < m
  ·have hst := HS.out.turned hg hblk (by omega)
   have hbw : b ≠ w.heap.size := by omega
   obtain ⟨b2,o2,y,hBe,hbl2,hy,cy⟩ := iv_at HL.out (HR.out.grown hg HB.out) hlt
   subst hBe
   have hkj : k + j < L.length := by rw [HS.out.len]; omega
   have hx := List.getElem?_eq_getElem hkj
   generalize L[k + j] = x at hx
   have HY := hid (hpos.out j y hy)
   have HT := hid (iv_take_snoc _ j _ (manyL_get L k bs j x y hx hy))
   have HC := hid (next_some b A n cap (k + j) L y x _ hst HY.out (HD.out y (List.mem_of_getElem? hy)) (by omega) hx)
   have HO := hid hown
   have HG := hid hg
   clear hst hown hg hblk hx hy
   go_wp2_with fail
   ((with_reducible refine HC.out.mono ?_); rintro e w1 ⟨rfl,hg1,hblk1⟩)
   have hown1 : w1.ownsRow w.heap.size 3 1 (.slice A' j c') j (iv ((manyL L k bs).take j)) := HO.out.kept hg1 (by
    cases hA : (Value.slice A' j c').ownBlock with
    | none => exact .inl rfl
    | some g => refine .inr ?_; intro e; injection e with e; have := (HO.out.lt g hA).1; omega)
   have hg2 := HG.out.trans hg1
   have hsz := hg2.size
   have HO1 := hid hown1
   have HB1 := hid hblk1
   have HG2 := hid hg2
   clear hown1 hblk1 hg1 hg2 HO HG HC
   go_wp2_with (at_builtin; go_must (refine wpList_push slInt rfl _ _ rfl w.heap.size _ j (iv ((manyL L k bs).take j)) rfl HO1.out #[.int .i64 (x % y)] _ rfl rfl rfl (uone_int _) (by unfold maxLen; omega) (by omega) hsz ?_); intro A2 c2 w2 hown2 hb2)
   go_roundw
   case rel => exact ⟨j + 1,by omega,by go_num,⟨A2,c2,rfl⟩,by rw [HT.out]; exact hown2,gr_below HG2.out hb2,HB1.out.below hb2 hblt⟩
   case measure => simp [intOf]; omega
  ·obtain rfl : j = m := by omega
   go_wp2
   go_ret2
   refine ⟨A',c',rfl,?_,hg,hblk⟩
   rw [List.take_of_length_le (by rw [HM.out]; omega)] at hown
   exact hown
def iotaL (n : Nat) : List Int := (List.range n).map fun j : Nat => (j : Int)
theorem iotaL_length (n : Nat) : (iotaL n).length = n := by simp [iotaL]
theorem iotaL_succ (n : Nat) : iotaL (n + 1) = iotaL n ++ [(n : Int)] := by simp [iotaL,List.range_succ]
theorem iv_iota_succ (n : Nat) : iv (iotaL (n + 1)) = iv (iotaL n) ++ [.int .i64 n] := by rw [iotaL_succ,iv_append]; rfl
theorem identity_any (n : Nat) (w : World) (hn : n <= 1000000) :
  Calls Tryz.prog 164 #[.int .i64 n] w (OwnRet w 3 1 n (iv (iotaL n))) := by
 go_enter Tryz.func164,Tryz.ntmps164
 go_wp2_with fail
 go_loopw [3,6] (fun v c wr => ∃ j : Nat,j <= n /\ c = .int .i64 j /\ (∃ A' c',v = .slice A' j c') /\ wr.ownsRow w.heap.size 3 1 v j (iv (iotaL j)) /\ Below w.heap.size w wr) (fun _ c _ => n - (intOf c).toNat)
 case atStart => exact ⟨0,by omega,rfl,⟨none,0,rfl⟩,by simpa [iv,iotaL] using World.ownsRow_nil _ _ _ _,Below.refl _ _⟩
 case round =>
  obtain ⟨j,hj,rfl,⟨A',c',rfl⟩,hown,hb⟩ := hrel
  by_cases hlt : j < n
  ·have hsz := hb.size
   have HO := hid hown
   have HB := hid hb
   have HT := hid (iv_iota_succ j)
   clear hown hb
   go_wp2_with (at_builtin; go_must (refine wpList_push slInt rfl _ _ rfl w.heap.size _ j (iv (iotaL j)) rfl HO.out #[.int .i64 j] _ rfl rfl rfl (uone_int _) (by unfold maxLen; omega) (by omega) hsz ?_); intro A2 c2 w2 hown2 hb2)
   go_roundw
   case rel => exact ⟨j + 1,by omega,by go_num,⟨A2,c2,rfl⟩,by rw [HT.out]; exact hown2,HB.out.trans hb2⟩
   case measure => simp [intOf]; omega
  ·obtain rfl : j = n := by omega
   go_wp2
   go_ret
   exact ⟨A',c',rfl,hown,hb⟩
def swapL (l : List Int) (i j : Nat) : List Int := (l.set i (l.getD j 0)).set j (l.getD i 0)
theorem swapL_length (l : List Int) (i j : Nat) : (swapL l i j).length = l.length := by simp [swapL]
theorem own_store1 {w : World} {base : Nat} {e : TypeId} {g n cap : Nat} {l : List Int} (h : w.ownsRow base e 1 (.slice (some ⟨g,0,none⟩) n cap) n (iv l)) (k j : Nat) (x y : Int) :
  (((w.setCell ⟨g,k,none⟩ (.int .i64 x)).setCell ⟨g,j,none⟩ (.int .i64 y))).ownsRow base e 1 (.slice (some ⟨g,0,none⟩) n cap) n (iv ((l.set k x).set j y)) /\
  w.grownBy ((w.setCell ⟨g,k,none⟩ (.int .i64 x)).setCell ⟨g,j,none⟩ (.int .i64 y)) (some g) := by
 obtain ⟨s1,g1⟩ := h.stored k (.int .i64 x)
 obtain ⟨s2,g2⟩ := s1.stored j (.int .i64 y)
 rw [<- iv_set,<- iv_set]
 exact ⟨s2,g1.trans g2⟩
theorem swap_any (gh g n c base i j : Nat) (l : List Int) (w : World) (hl : l.length = n) (hn : n <= 1000000) (hi : i < n) (hj : j < n) (hh : Blk w gh 22 #[.slice (some ⟨g,0,none⟩) n c]) (hne : gh ≠ g) (hown : w.ownsRow base 3 1 (.slice (some ⟨g,0,none⟩) n c) n (iv l)) :
  Calls Tryz.prog 165 #[.int .i64 i,.int .i64 j,.pointer (some ⟨gh,0,none⟩)] w fun e w' => e = .returned (.tuple #[]) /\ w'.ownsRow base 3 1 (.slice (some ⟨g,0,none⟩) n c) n (iv (swapL l i j)) /\ w.grownBy w' (some g) := by
 have h0 : w.cell? ⟨gh,0,none⟩ = some (.slice (some ⟨g,0,none⟩) n c) := hh.cell 0
 obtain ⟨x,hx⟩ : ∃ x,l[i]? = some x := ⟨_,List.getElem?_eq_getElem (by omega)⟩
 obtain ⟨y,hy⟩ : ∃ y,l[j]? = some y := ⟨_,List.getElem?_eq_getElem (by omega)⟩
 have c1 : w.cell? ⟨g,i,none⟩ = some (.int .i64 x) := (hown.cellAt i (by omega)).trans (by rw [iv,List.getElem?_map,hx]; rfl)
 have c2 : w.cell? ⟨g,j,none⟩ = some (.int .i64 y) := (hown.cellAt j (by omega)).trans (by rw [iv,List.getElem?_map,hy]; rfl)
 have f1 := hown.frozenAt i
 have f2 := hown.frozenAt j
 have lh := hh.lt
 have HO := hid hown
 have i1 : (0 : Int) <= (i : Int) := by omega
 have i2 : (i : Int) < (n : Int) := by omega
 have i3 : (0 : Int) <= (j : Int) := by omega
 have i4 : (j : Int) < (n : Int) := by omega
 have HE : Hid (swapL l i j = (l.set i y).set j x) := hid (by simp [swapL,List.getD,hx,hy])
 clear hh hown hl hx hy
 by_cases e : i = j
 ·subst e
  obtain rfl : x = y := by rw [c1] at c2; injection c2 with e; injection e
  go_enter Tryz.func165,Tryz.ntmps165
  go_wp2_with fail
  go_region
  go_wp2
  go_end0
  rw [HE.out]
  have h := own_store1 HO.out i i x x
  exact ⟨rfl,h.1,h.2.os,h.2.tape,h.2.output,h.2.size,h.2.block⟩
 ·go_enter Tryz.func165,Tryz.ntmps165
  go_wp2_with fail
  go_region
  go_wp2
  go_end0
  rw [HE.out]
  have h := own_store1 HO.out i j y x
  exact ⟨rfl,h.1,h.2.os,h.2.tape,h.2.output,h.2.size,h.2.block⟩
def bndsL (n k : Nat) : List Int := (List.range k).map fun j : Nat => (n : Int) - (j : Int)
theorem bndsL_length (n k : Nat) : (bndsL n k).length = k := by simp [bndsL]
theorem bndsL_get (n k j : Nat) (h : j < k) : (bndsL n k)[j]? = some ((n : Int) - (j : Int)) := by simp [bndsL,h]
theorem iv_bnds_succ (n k : Nat) (m : Int) (h : (n : Int) - (k : Int) = m) : iv (bndsL n (k + 1)) = iv (bndsL n k) ++ [.int .i64 m] := by
 subst h
 simp [bndsL,List.range_succ,iv]
theorem bnds_low (n k : Nat) (h : k <= n) : anyLow (bndsL n k) = false := by
 refine low_none (bndsL_length n k) (fun j x hj hx => ?_)
 rw [bndsL_get n k j hj] at hx
 injection hx with hx
 omega
def shufTo (n : Nat) (ds : List Int) : Nat -> List Int
 | 0 => iotaL n
 | k + 1 => swapL (shufTo n ds k) (n - 1 - k) (ds.getD k 0).toNat
theorem shufTo_length (n : Nat) (ds : List Int) : ∀ k,(shufTo n ds k).length = n
 | 0 => iotaL_length n
 | k + 1 => by rw [shufTo,swapL_length,shufTo_length n ds k]
def pemL (L : List Int) (n s : Nat) : List Int := shufTo n (manyL L s (bndsL n (n - 1))) (n - 1)
theorem pemL_length (L : List Int) (n s : Nat) : (pemL L n s).length = n := shufTo_length _ _ _
abbrev smpC (bt st : Int) (Ab : Option Addr) (q cb : Nat) (Ao : Option Addr) (E co : Nat) : Array Value := #[.int .i64 bt,.int .i64 st,.slice Ab q cb,.slice Ao E co]
theorem blk_set3 {w : World} {g : Nat} {t : TypeId} {x y z u : Value} (h : Blk w g t #[x,y,z,u]) (v : Value) :
  w.grownBy (w.setCell ⟨g,3,none⟩ v) (some g) /\ Blk (w.setCell ⟨g,3,none⟩ v) g t #[x,y,z,v] :=
 ⟨gr_set (p := ⟨g,3,none⟩) (World.grownBy.refl w _) (.inl rfl) v,by simpa using h.set_ 3 v⟩
end
section
open Go.RowKit
variable (gn gst gs b bs N cap n s E co cb q base : Nat) (A Ao Ab : Option Addr) (bt st : Int) (L : List Int) (vs : List SlN) (w : World)
theorem newShuf_gen (ok : Bool) (R : SlN -> World -> Prop) (h1 : Blk w gn 3 #[.int .i64 n]) (h2 : Blk w gst 187 #[.pointer (some ⟨b,0,none⟩)])
  (h3 : Blk w gs 71 #[.pointer (some ⟨bs,0,none⟩)]) (h4 : Blk w bs 186 (smpC bt st Ab q cb Ao E co)) (ho : w.ownsRow base 22 1 (.slice Ao E co) E (slsv vs))
  (hbb : Blk w b 299 #[.slice A N cap,.int .i64 s]) (hE : E <= 1000) (hbase : base <= w.heap.size)
  (hC : Calls Tryz.prog 80 #[.int .i64 n,.pointer (some ⟨b,0,none⟩)] w fun e w' => ∃ sl : SlN,e = .returned (.tuple #[.slice sl.1 sl.2.1 sl.2.2,.bool ok]) /\ R sl w' /\ w.grownBy w' (some b)) :
  Calls Tryz.prog 79 #[.pointer (some ⟨gn,0,none⟩),.pointer (some ⟨gst,0,none⟩),.pointer (some ⟨gs,0,none⟩)] w fun e w' => e = .returned (.bool ok) /\ ∃ (w1 : World) (sl : SlN) (Ao' : Option Addr) (co' : Nat),R sl w1 /\ w.grownBy w1 (some b) /\
   Blk w' bs 186 (smpC bt st Ab q cb Ao' (E + 1) co') /\ w'.ownsRow base 22 1 (.slice Ao' (E + 1) co') (E + 1) (slsv (vs ++ [sl])) /\ But (fun g => g = bs \/ (Value.slice Ao E co).ownBlock = some g) w1 w' := by
 have C := hid hC
 have nb1 : gn ≠ b := h1.ne_ hbb (by decide)
 have nb2 : gst ≠ b := h2.ne_ hbb (by decide)
 have nb3 : gs ≠ b := h3.ne_ hbb (by decide)
 have nb4 : bs ≠ b := h4.ne_ hbb (by decide)
 have c1 := h1.cell 0
 have c2 := h2.cell 0
 have l1 := h1.lt
 have l2 := h2.lt
 have l3 := h3.lt
 have l4 := h4.lt
 have H3 := hid h3
 have H4 := hid h4
 have HO := hid ho
 have HS := hid hbb
 clear h1 h2 h3 h4 ho hbb hC
 go_enter Tryz.func79,Tryz.ntmps79
 go_wp2_with fail
 ((with_reducible refine C.out.mono ?_); rintro e w1 ⟨⟨A1,n1,d1⟩,rfl,hR,hg1⟩)
 have H31 := H3.out.grown hg1 (by simpa using nb3)
 have H41 := H4.out.grown hg1 (by simpa using nb4)
 have hown1 := HO.out.kept hg1 (.inr (own_blk_ne HO.out HS.out (by decide)))
 have HO1 : Hid (w1.drew.ownsRow base 22 1 (.slice Ao E co) E (slsv vs)) := hid hown1
 have HG := hid hg1
 have HRR := hid hR
 have hsz : base <= w1.heap.size := Nat.le_trans hbase hg1.size
 have r1 : w1.cell? ⟨gs,0,none⟩ = some (.pointer (some ⟨bs,0,none⟩)) := H31.cell 0
 have r2 : w1.cell? ⟨bs,3,none⟩ = some (.slice Ao E co) := H41.cell 3
 have HH4 : Hid (Blk w1.drew bs 186 (smpC bt st Ab q cb Ao E co)) := hid H41.drew
 have HH3 : Hid (Blk w1.drew gs 71 #[.pointer (some ⟨bs,0,none⟩)]) := hid H31.drew
 have hS : (fun W : World => W.cell? ⟨gs,0,none⟩ = some (.pointer (some ⟨bs,0,none⟩)) /\ W.cell? ⟨bs,3,none⟩ = some (.slice Ao E co)) w1.drew := ⟨r1,r2⟩
 have HSN := hid (slsv_snoc vs (A1,n1,d1))
 clear hg1 H31 H41 c1 c2 hown1 hR l1 l2 l3 l4
 go_wp2_with fail
 refine wp_region_early (fun W : World => W.cell? ⟨gs,0,none⟩ = some (.pointer (some ⟨bs,0,none⟩)) /\ W.cell? ⟨bs,3,none⟩ = some (.slice Ao E co)) [0,1,2,3,4,5] [6,7] [8,9,10] (by kernel_rfl) (by kernel_rfl) hS ?_
 clear hS r1 r2
 simp only [List.filterMap_cons,List.filterMap_nil,List.getElem?_cons_succ,List.getElem?_cons_zero]
 refine early_step (.pointer (some ⟨bs,0,none⟩)) rfl (fun W hW => ?_) ?_
 ·obtain ⟨hc,hc'⟩ := hW
  go_simp
 go_simp
 refine early_step (.pointer (some ⟨bs,0,none⟩)) rfl (fun W hW => ?_) ?_
 ·obtain ⟨hc,hc'⟩ := hW
  go_simp
 go_simp
 refine early_step (.pointer (some ⟨bs,0,none⟩)) rfl (fun W hW => ?_) ?_
 ·go_simp
 go_simp
 refine early_step (.pointer (some ⟨bs,3,none⟩)) rfl (fun W hW => ?_) ?_
 ·go_simp
 go_simp
 refine early_step (.slice Ao E co) rfl (fun W hW => ?_) ?_
 ·obtain ⟨hc,hc'⟩ := hW
  go_simp
 go_simp
 refine early_step (.slice A1 n1 d1) rfl (fun W hW => ?_) ?_
 ·go_simp
 go_simp
 change RestW _ _ _ _ _ (_ :: _ :: []) _ _
 unfold RestW
 go_wp2_with fail
 refine ⟨⟨(HH3.out.alloc _).cell 0,(HH4.out.alloc _).cell 3⟩,?_⟩
 unfold RestW
 change wpList _ _ _ (_ :: []) _ (w1.drew.alloc (.cells #[.slice A1 n1 d1] 22))
 go_wp2_with (at_builtin; go_must (refine wpList_pushG slRows rfl _ _ rfl base _ E (slsv vs) rfl HO1.out #[.slice A1 n1 d1] w1.heap.size rfl rfl rfl (uone_sl _ _ _) (by unfold maxLen; omega) (by omega) hsz ?_); go_must (intro A4 c4 w4 hown4 hb4 hg4; (have HB3 : Hid (Blk w4 gs 71 #[.pointer (some ⟨bs,0,none⟩)]) := hid (HH3.out.other HO1.out hg4 (by decide))); (have HB4 : Hid (Blk w4 bs 186 (smpC bt st Ab q cb Ao E co)) := hid (HH4.out.other HO1.out hg4 (by decide))); (have f3 := HB4.out.frozen 3); (have d3 : w4.cell? ⟨bs,3,none⟩ = some (.slice Ao E co) := HB4.out.cell 3); (have l4 := HB4.out.lt); (have HO4 := hid hown4); (have HG4 := hid hg4); clear hown4 hb4 hg4))
 refine ⟨HB3.out.cell 0,?_⟩
 unfold RestW
 change wpList _ _ _ (_ :: _ :: _ :: []) _ _
 go_wp2_with fail
 refine NoPanic.normal ?_
 have hst := blk_set3 HB4.out (.slice A4 (E + 1) c4)
 have HST := hid hst
 clear hst
 go_wp2
 go_ret
 refine ⟨rfl,w1,(A1,n1,d1),A4,c4,HRR.out,HG.out,HST.out.2,?_,?_⟩
 ·rw [HSN.out]
  exact HO4.out.kept HST.out.1 (.inr (own_blk_ne HO4.out HB4.out (by decide)))
 ·have g4 : But (fun g => g = bs \/ (Value.slice Ao E co).ownBlock = some g) w1.drew w4 := But.of_own HG4.out (fun g e => .inr e)
  exact ((But.of_below _ ((Below.refl _ _).drew)).trans g4).trans (But.of_gr HST.out.1 (.inl rfl))
end
section
open Go.RowKit
def ShufAt (w : World) (b : Nat) (A : Option Addr) (N cap n k : Nat) (L l : List Int) (e : Ending) (w' : World) : Prop :=
 ∃ A' c',e = .returned (.tuple #[.slice A' n c',.bool true]) /\ w'.ownsRow w.heap.size 3 1 (.slice A' n c') n (iv l) /\ w.grownBy w' (some b) /\ Stm w' b A N cap k L
theorem shuffle_at (b N cap n s : Nat) (A : Option Addr) (L : List Int) (w : World) (hst : Stm w b A N cap s L) (hn : n <= 1000) (hN : s + (n - 1) <= N) (hN2 : N <= 10000000) :
  Calls Tryz.prog 80 #[.int .i64 n,.pointer (some ⟨b,0,none⟩)] w (ShufAt w b A N cap n (s + (n - 1)) L (shufTo n (manyL L s (bndsL n (n - 1))) (n - 1))) := by
 obtain ⟨m,hm⟩ : ∃ m,n - 1 = m := ⟨_,rfl⟩
 rw [hm] at hN ⊢
 obtain ⟨ds,hds⟩ : ∃ ds,manyL L s (bndsL n m) = ds := ⟨_,rfl⟩
 have hlen : L.length = N := hst.len
 have hdl : ds.length = m := by rw [<- hds,manyL_length _ _ _ (by rw [bndsL_length]; omega),bndsL_length]
 have hdv : ∀ j,j < m -> ∃ d : Nat,ds[j]? = some (d : Int) /\ d < n := fun j hj => by
  obtain ⟨x,hx⟩ : ∃ x,L[s + j]? = some x := ⟨_,List.getElem?_eq_getElem (by omega)⟩
  have h := manyL_get L s (bndsL n m) j x _ hx (bndsL_get n m j hj)
  rw [hds] at h
  have h1 := Int.emod_nonneg x (show (n : Int) - (j : Int) ≠ 0 by omega)
  have h2 := Int.emod_lt_of_pos x (show 0 < (n : Int) - (j : Int) by omega)
  exact ⟨(x % ((n : Int) - (j : Int))).toNat,by rw [h]; congr 1; omega,by omega⟩
 have HM := hid (fun B d W (s' : Stm W b A N cap s L) hr hB => many_some b A B N cap s m d L (bndsL n m) W s' (by omega) (bndsL_length n m) hr hB (by omega) (bnds_low n m (by omega)) (fun x hx => by
  obtain ⟨j,hj,e⟩ := List.mem_map.1 hx
  have e' : (n : Int) - (j : Int) = x := e
  omega))
 have HS := hid hst
 have HD := hid hds
 have HDL := hid hdl
 have HDV := hid hdv
 have hmn : m <= n := by omega
 have HMN := hid hm
 have hblt := hst.blk.lt
 clear hst hds hdl hdv hlen hm
 go_enter Tryz.func80,Tryz.ntmps80
 go_wp2_with fail
 go_loopw [6,7] (fun v c wr => ∃ k q : Nat,k <= m /\ k + q = n /\ c = .int .i64 q /\ (∃ A' c',v = .slice A' k c') /\ wr.ownsRow w.heap.size 3 1 v k (iv (bndsL n k)) /\ Below w.heap.size w wr) (fun _ c _ => (intOf c).toNat)
 case atStart => exact ⟨0,n,by omega,by omega,rfl,⟨none,0,rfl⟩,by simpa [iv,bndsL] using World.ownsRow_nil _ _ _ _,Below.refl _ _⟩
 case round =>
  obtain ⟨k,q,hk,hq,rfl,⟨A',c',rfl⟩,hown,hb⟩ := hrel
  have hmm := HMN.out
  by_cases hlt : k < m
  ·have hq1 : 1 < q := by omega
   have hq2 : q <= 1000 := by omega
   have hsz := hb.size
   have HO := hid hown
   have HB := hid hb
   have HT := hid (iv_bnds_succ n k q (by omega))
   have HQ := hid (And.intro hq hq1)
   clear hown hb hq
   go_wp2_with (at_builtin; go_must (refine wpList_push slInt rfl _ _ rfl w.heap.size _ k (iv (bndsL n k)) rfl HO.out #[.int .i64 q] _ rfl rfl rfl (uone_int _) (by unfold maxLen; omega) (by omega) hsz ?_); intro A2 c2 w2 hown2 hb2)
   go_roundw
   case rel => exact ⟨k + 1,q - 1,by omega,by have := HQ.out; omega,by have := HQ.out; go_num,⟨A2,c2,rfl⟩,by rw [HT.out]; exact hown2,HB.out.trans hb2⟩
   case measure => have := HQ.out; simp [intOf]; omega
  ·obtain rfl : k = m := by omega
   have hq1 : q <= 1 := by omega
   have hsz := hb.size
   have HST := hid (show Stm wr b A N cap s L from HS.out.kept hb)
   have HB := hid hb
   have hob : ∀ b' o,A' = some ⟨b',o,none⟩ -> 0 < k -> b' ≠ b := fun b' o e h => by
    have := (own_rd_block hown b' o e).1
    omega
   have C := HM.out A' c' wr HST.out (Rd.of_own hown) hob
   rw [HD.out] at C
   have HC := hid C
   have HN := hid hq
   clear hown hb hob C hmm hq
   go_wp2_with fail
   ((with_reducible refine HC.out.mono ?_); rintro e w2 ⟨A2,c2,rfl,hown2,hg2,hblk2⟩)
   have HO2 := hid hown2
   have HG2 := hid (gr_below_first HB.out hg2)
   have HBK := hid hblk2
   clear hown2 hg2 hblk2
   go_wp2_with fail
   ((with_reducible refine (identity_any n w2 (by omega)).mono ?_); rintro e w3 ⟨A3,c3,rfl,hown3,hb3⟩)
   have HO3 := hid hown3
   have HB3 := hid hb3
   clear hown3 hb3
   go_wp2_with fail
   have h5 : Blk (w3.alloc (.cells #[.slice A3 n c3] 22)) w3.heap.size 22 #[.slice A3 n c3] := Blk.new _ _ _
   have hb5 : Below w3.heap.size w3 (w3.alloc (.cells #[.slice A3 n c3] 22)) := (Below.refl _ _).alloc (Nat.le_refl _) _
   obtain ⟨W5,hW5⟩ : ∃ W5,w3.alloc (.cells #[.slice A3 n c3] 22) = W5 := ⟨_,rfl⟩
   rw [hW5] at h5 hb5 ⊢
   obtain ⟨gh,hgh⟩ : ∃ gh,w3.heap.size = gh := ⟨_,rfl⟩
   rw [hgh] at h5 ⊢
   have h25 : Below w2.heap.size w2 W5 := ((Kept.of HB3.out).call hb5).2.2
   have hs2 : w.heap.size <= w2.heap.size := HG2.out.size
   have hs3 : w2.heap.size <= w3.heap.size := HB3.out.size
   have h2lt : ∀ b' o,A2 = some ⟨b',o,none⟩ -> b' < w2.heap.size := fun b' o e => (own_rd_block HO2.out b' o e).2
   have HA2 := hid h2lt
   have HOB : Hid (∀ q,(Value.slice A3 n c3).ownBlock = some q -> w2.heap.size <= q /\ q < gh) := hid (fun q e => by have := HO3.out.lt q e; omega)
   have HA3 : Hid (∀ b' o,A3 = some ⟨b',o,none⟩ -> b' < gh) := hid (fun b' o e => by have := (own_rd_block HO3.out b' o e).2; omega)
   have HH := hid h5
   have HD5 := hid ((Rd.of_own HO2.out).below h25)
   have HO5 := hid (own_below HO3.out hb5)
   have H25 := hid h25
   have HGH := hid hgh
   clear h5 hb5 h25 hgh hW5 h2lt HO2 HO3 HB3 HC HM HB HST
   go_loopw [46] (fun c wr => ∃ j : Nat,j <= k /\ c = .int .i64 j /\ wr.ownsRow w2.heap.size 3 1 (.slice A3 n c3) n (iv (shufTo n ds j)) /\ W5.grownBy wr (Value.slice A3 n c3).ownBlock) (fun c _ => k - (intOf c).toNat)
   case atStart => exact ⟨0,by omega,rfl,HO5.out,World.grownBy.refl _ _⟩
   case round =>
    obtain ⟨j,hj,rfl,ho,hg⟩ := hrel
    by_cases hlt2 : j < k
    ·obtain ⟨_,_,q1,q2,q3,q6⟩ := own_form ho
     injection q1 with q4 _ q5
     subst q4 q5
     obtain ⟨g,rfl,hg3,hg4⟩ := q6 (by omega)
     have hg' : W5.grownBy wr (some g) := hg
     have hgh := HA3.out g 0 rfl
     obtain ⟨b2,o2,y,hBe,hbl2,hy,cy⟩ := iv_at HDL.out (HD5.out.grown hg' (fun b' o e h0 => by have := HA2.out b' o e; omega)) hlt2
     subst hBe
     obtain ⟨d,hd,hdn⟩ := HDV.out j hlt2
     obtain rfl : y = (d : Int) := by rw [hd] at hy; injection hy with e; exact e.symm
     have hh := HH.out.grown hg' (by simp; omega)
     obtain ⟨i,hi⟩ : ∃ i,i + j + 1 = n := ⟨n - 1 - j,by omega⟩
     have C := swap_any gh g n c3 w2.heap.size i d (shufTo n ds j) wr (shufTo_length n ds j) (by omega) (by omega) hdn hh (by omega) ho
     rw [show swapL (shufTo n ds j) i d = shufTo n ds (j + 1) by
      rw [shufTo,show n - 1 - j = i by omega]
      simp [List.getD,hd]] at C
     have HSW := hid C
     have HG := hid hg'
     have HI := hid hi
     clear C ho hg hg' hh hd hy hi q6
     go_wp2_with fail
     rw [show (n : Int) - 1 - (j : Int) = (i : Int) by have := HI.out; omega]
     ((with_reducible refine HSW.out.mono ?_); rintro e w6 ⟨rfl,ho6,hg6⟩)
     go_wp2_with fail
     go_roundw
     case rel => exact ⟨j + 1,by omega,by go_num,ho6,HG.out.trans hg6⟩
     case measure => simp [intOf]; omega
    ·obtain rfl : j = k := by omega
     have hgl : W5.heap.size <= wr.heap.size := hg.size
     have hh := HH.out.grown hg (fun e => by have := HOB.out gh e.symm; omega)
     have x0 : wr.cell? ⟨gh,0,none⟩ = some (.slice A3 n c3) := hh.cell 0
     have lh := hh.lt
     have hb5 : Below w.heap.size w2 wr := by
      refine (H25.out.mono hs2).grown hg (by have := H25.out.size; omega) (fun q e => by have := HOB.out q e; omega)
     have HF := hid (gr_below HG2.out hb5)
     have HBKF := hid ((HBK.out.kept H25.out).grown hg (fun e => by have := HOB.out b e.symm; have := HBK.out.lt; omega))
     have HOF := hid (own_base ho hs2)
     clear hh ho hg hb5
     go_wp2_with fail
     go_ret2
     exact ⟨A3,c3,rfl,by rw [HD.out]; exact HOF.out,HF.out,HS.out.turned HF.out HBKF.out (by omega)⟩
theorem shuffle_short (b N cap n s : Nat) (A : Option Addr) (L : List Int) (w : World) (hst : Stm w b A N cap s L) (hn : n <= 1000) (hN : N - s < n - 1) (hN2 : N <= 10000000) :
  Calls Tryz.prog 80 #[.int .i64 n,.pointer (some ⟨b,0,none⟩)] w fun e w' => e = .returned (.tuple #[.slice none 0 0,.bool false]) /\ w.grownBy w' (some b) := by
 obtain ⟨m,hm⟩ : ∃ m,n - 1 = m := ⟨_,rfl⟩
 rw [hm] at hN
 have HM := hid (fun B d W (s' : Stm W b A N cap s L) hr => many_none b A B N cap s m d (bndsL n m) W s'.blk s'.le (by omega) (bndsL_length n m) hr (by omega) (.inl hN))
 have HS := hid hst
 have hmn : m <= n := by omega
 have HMN := hid hm
 clear hst hm
 go_enter Tryz.func80,Tryz.ntmps80
 go_wp2_with fail
 go_loopw [6,7] (fun v c wr => ∃ k q : Nat,k <= m /\ k + q = n /\ c = .int .i64 q /\ (∃ A' c',v = .slice A' k c') /\ wr.ownsRow w.heap.size 3 1 v k (iv (bndsL n k)) /\ Below w.heap.size w wr) (fun _ c _ => (intOf c).toNat)
 case atStart => exact ⟨0,n,by omega,by omega,rfl,⟨none,0,rfl⟩,by simpa [iv,bndsL] using World.ownsRow_nil _ _ _ _,Below.refl _ _⟩
 case round =>
  obtain ⟨k,q,hk,hq,rfl,⟨A',c',rfl⟩,hown,hb⟩ := hrel
  have hmm := HMN.out
  by_cases hlt : k < m
  ·have hq1 : 1 < q := by omega
   have hq2 : q <= 1000 := by omega
   have hsz := hb.size
   have HO := hid hown
   have HB := hid hb
   have HT := hid (iv_bnds_succ n k q (by omega))
   have HQ := hid (And.intro hq hq1)
   clear hown hb hq
   go_wp2_with (at_builtin; go_must (refine wpList_push slInt rfl _ _ rfl w.heap.size _ k (iv (bndsL n k)) rfl HO.out #[.int .i64 q] _ rfl rfl rfl (uone_int _) (by unfold maxLen; omega) (by omega) hsz ?_); intro A2 c2 w2 hown2 hb2)
   go_roundw
   case rel => exact ⟨k + 1,q - 1,by omega,by have := HQ.out; omega,by have := HQ.out; go_num,⟨A2,c2,rfl⟩,by rw [HT.out]; exact hown2,HB.out.trans hb2⟩
   case measure => have := HQ.out; simp [intOf]; omega
  ·obtain rfl : k = m := by omega
   have hq1 : q <= 1 := by omega
   have HST := hid (show Stm wr b A N cap s L from HS.out.kept hb)
   have HB := hid hb
   have C := HM.out A' c' wr HST.out (Rd.of_own hown)
   have HC := hid C
   have HN := hid hq
   clear hown hb C hmm hq
   go_wp2_with fail
   ((with_reducible refine HC.out.mono ?_); rintro e w2 ⟨rfl,hg2,hblk2⟩)
   have HG2 := hid (gr_below_first HB.out hg2)
   clear hg2 hblk2
   go_wp2_with fail
   go_ret2
   exact ⟨rfl,HG2.out⟩
end
end Go.Proofs.YtkmaeipoaoikpaaGreat
