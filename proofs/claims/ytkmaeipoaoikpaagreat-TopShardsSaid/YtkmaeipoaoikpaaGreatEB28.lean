/- ConfIn2. -/
import Derived.Test.YtkmaeipoaoikpaaGreatEB27
namespace Go.Proofs.YtkmaeipoaoikpaaGreat
set_option linter.all false
set_option maxRecDepth 100000
set_option maxHeartbeats 4000000
open Lib (hid)
section
open Go.RowKit
theorem refCheck10_any (S : Option Addr) (m cS : Nat) (es : List ExS) (i o : Int) (w : World) (hl : es.length = m) (h : Rd w 2 S m (exV es)) (hm : m <= 1000000) :
  Calls Tryz.prog 36 #[.slice S m cS,.int .i64 i,.int .i64 o] w (NumOk (fitsB es i o) w) := by
 have HL := hid hl
 have HR := hid h
 clear hl h
 go_enter Tryz.func36,Tryz.ntmps36
 go_wp2_with fail
 go_loopw [8] (fun c wr => ∃ k : Nat,k <= m /\ c = .int .i64 k /\ wr = w /\ Hid (∀ j e,j < k -> es[j]? = some e -> fit1 i o e = true)) (fun c _ => m - (intOf c).toNat)
 case atStart => exact ⟨0,by omega,rfl,rfl,hid (fun j x h => by omega)⟩
 case round =>
  obtain ⟨k,hk,rfl,hwr,he⟩ := hrel
  subst hwr
  by_cases hlt : k < m
  ·obtain ⟨⟨⟨a,n,c⟩,⟨a',n',c'⟩⟩,hs⟩ : ∃ s,es[k]? = some s := ⟨_,List.getElem?_eq_getElem (by rw [HL.out]; exact hlt)⟩
   obtain ⟨b,o',rfl,lb,c0,c1⟩ := exV_rd HR.out hs hlt
   have HS := hid hs
   dsimp only at c0 c1
   have e0 : decide ((k : Int) < (m : Int)) = true := decide_eq_true (by omega)
   clear hs
   by_cases e1 : (n : Int) = i
   ·have f1 : ((n : Int) != i) = false := by simp [e1]
    by_cases e2 : (n' : Int) = o
    ·have f2 : ((n' : Int) != o) = false := by simp [e2]
     have HQ : Hid (fit1 i o ((a,n,c),(a',n',c')) = true) := hid (by simp [fit1,e1,e2])
     clear e1 e2
     go_wp2_with fail
     go_roundw
     case rel =>
      refine ⟨k + 1,by omega,by go_num,trivial,hid (fun j y hj hy => ?_)⟩
      by_cases hjk : j < k
      ·exact he.out j y hjk hy
      ·obtain rfl : j = k := by omega
       rw [HS.out] at hy
       injection hy with hy
       rw [<- hy]
       exact HQ.out
     case measure => simp [intOf]; omega
    ·have f2 : ((n' : Int) != o) = true := by simp [e2]
     have HQ : Hid (fit1 i o ((a,n,c),(a',n',c')) = false) := hid (by simp [fit1,e1,e2])
     clear e1 e2
     go_wp2_with fail
     go_ret2
     exact ⟨_,by rw [fits_here HS.out HQ.out]; rfl,Below.refl _ _⟩
   ·have f1 : ((n : Int) != i) = true := by simp [e1]
    have HQ : Hid (fit1 i o ((a,n,c),(a',n',c')) = false) := hid (by simp [fit1,e1])
    clear e1
    go_wp2_with fail
    go_ret2
    exact ⟨_,by rw [fits_here HS.out HQ.out]; rfl,Below.refl _ _⟩
  ·obtain rfl : k = m := by omega
   have HF : Hid (fitsB es i o = true) := hid (fits_all HL.out he.out)
   go_wp2_with fail
   go_ret2
   exact ⟨_,by rw [HF.out]; rfl,Below.refl _ _⟩
end
section
open Go.RowKit
variable (A : Option Addr) (n cap : Nat) (l : List Int) (c : Cfg) (S : Option Addr) (m cS : Nat) (es : List ExS) (AP : Option Addr) (P cP : Nat) (AD : Option Addr) (D cD : Nat) (w : World)
theorem confInput_any (hl : l.length = n) (h : Rd w 1 A n (iv l)) (hcap : n <= cap) (hn : n <= 1000) (hel : es.length = m) (hes : Rd w 2 S m (exV es)) (hm : m <= 1000) (hP : P <= 1000000) (hD : D <= 1000000) :
  Calls Tryz.prog 16 #[inV A n cap c S m cS AP P cP AD D cD] w (CodeRet (okIn l c es m P D) w) := by
 have HG : Hid (∀ W,(w.alloc (.cells (inC A n cap c S m cS AP P cP AD D cD) 29)).alloc (.cells (cfgC A n cap c) 24) = W -> Below w.heap.size w W /\ Blk W w.heap.size 29 (inC A n cap c S m cS AP P cP AD D cD) /\ Blk W (w.heap.size + 1) 24 (cfgC A n cap c)) := hid (by
  rintro W rfl
  exact ⟨((Below.refl _ _).alloc (Nat.le_refl _) _).alloc (by simp) _,(Blk.new w _ _).alloc _,Blk.new' _ _ (by simp)⟩)
 have HL := hid hl
 have HR := hid h
 have C := fun W (r : Rd W 1 A n (iv l)) => confCheck_any A n cap l c W hl r hcap (by omega)
 by_cases hok : okCfg l c = true
 case neg =>
  have hok : okCfg l c = false := by simpa using hok
  rw [hok] at C
  have HC := hid C
  have HO : Hid (okIn l c es m P D = false) := hid (by rw [okIn,hok]; rfl)
  clear hl h C hok hel hes
  obtain ⟨sh,ra,mo,wk,ba,mi,st,bu,ch,wi,ca⟩ := c
  go_enter Tryz.func16,Tryz.ntmps16
  go_wp2_with fail
  obtain ⟨hB,hK,hK3⟩ := HG.out _ rfl
  ((with_reducible refine (HC.out _ (HR.out.below hB)).mono ?_); rintro e w2 ⟨k,rfl,hk,hb2⟩)
  have hk0 : k ≠ 0 := fun e => by have := hk.1 e; cases this
  have e5 : (k != 0) = true := by simp [hk0]
  have HB2 := hid (hB.trans (hb2.mono hB.size))
  have HK0 := hid hk0
  clear hB hK hK3 hk hb2 hk0
  go_wp2_with fail
  go_ret
  exact ⟨k,rfl,by rw [HO.out]; simp [HK0.out],HB2.out⟩
 case pos =>
  rw [hok] at C
  have HC := hid C
  obtain ⟨_,_,hsz,_,_,_,_,_,_,hba⟩ := okCfg_nums hok
  obtain ⟨n2,n16,hwr,hcnt⟩ := sizesB_nums hsz
  rw [hl] at n2 n16 hcnt
  have HO : Hid (okIn l c es m P D = (decide (c.ba <= m) && (fitsB es (l.getD 0 0) (l.getD (n - 1) 0) && (decide ((P : Int) = cntS l (n - 1)) && decide (needN c m <= D))))) := hid (by rw [okIn,hok,hl]; rfl)
  have HDC := hid (fun W (r : Rd W 2 S m (exV es)) i o => dataCheck_any S m cS es i o W hel r (by omega))
  have HND := hid (fun W (r : Rd W 1 A n (iv l)) (hb : c.ba <= m) => confNeed_any A n cap l c m W hl r hcap hn hok hb hm)
  have HSN := hid (fun W (r : Rd W 1 A n (iv l)) => shapeMake_any A n cap l W hl r hcap n2 n16 hwr hsz)
  have HES := hid hes
  have HCN := hid hcnt
  obtain ⟨y0,hy0⟩ : ∃ y,l[0]? = some y := ⟨_,List.getElem?_eq_getElem (by omega)⟩
  obtain ⟨y1,hy1⟩ : ∃ y,l[n - 1]? = some y := ⟨_,List.getElem?_eq_getElem (by omega)⟩
  rw [show l.getD 0 0 = y0 by simp [List.getD,hy0],show l.getD (n - 1) 0 = y1 by simp [List.getD,hy1]] at HO
  have HY0 := hid hy0
  have HY1 := hid hy1
  have HNN : Hid (c.ba <= m -> (needN c m : Int) <= 1099511627776) := hid (fun hb => by
   have h1 : cnt c.st.toNat (m / c.ba.toNat) <= 1048576 := cnt_lt _ _ (by have := (okCfg_nums hok).2.2.2.2.2.2.2.2.1; omega)
   have : needN c m <= 1048576 * 1000 := Nat.mul_le_mul h1 (by omega)
   omega)
  obtain ⟨nd,hnd⟩ : ∃ nd,needN c m = nd := ⟨_,rfl⟩
  rw [hnd] at HO HNN HND
  obtain ⟨b0,o0,rfl,lb0,hcs⟩ := h.2 (by omega)
  have HCS := hid (show w.cell? ⟨b0,o0,none⟩ = some (.int .i64 y0) /\ w.cell? ⟨b0,o0 + (n - 1),none⟩ = some (.int .i64 y1) from ⟨hcs 0 _ (by rw [iv,List.getElem?_map,hy0]; rfl),hcs (n - 1) _ (by rw [iv,List.getElem?_map,hy1]; rfl)⟩)
  obtain ⟨n1,e9⟩ : ∃ n1,n - 1 = n1 := ⟨_,rfl⟩
  have hn1 : n = n1 + 1 := by omega
  have hsub : IntKind.i64.wrap ((n : Int) - 1) = (n1 : Int) := by rw [show (n : Int) - 1 = (n1 : Int) by omega]; exact IntWalk.i64_in _ (by omega)
  have E9 := hid e9
  have j1 : 0 < n := by omega
  have j3 : n1 < n := by omega
  have i1 : (0 : Int) < (n : Int) := by omega
  have i2 : (0 : Int) <= (n1 : Int) := by omega
  have i3 : (n1 : Int) < (n : Int) := by omega
  rw [e9] at HO HCS HCN hy1
  skip
  obtain ⟨ct,hct⟩ : ∃ ct,cntS l n1 = ct := ⟨_,rfl⟩
  rw [hct] at HO HCN
  have HCTE := hid hct
  clear hl h C hok hel hes hcs hwr hsz hcnt hba hy0 hy1 hnd hct e9 hn1
  obtain ⟨sh,ra,mo,wk,ba,mi,st,bu,ch,wi,ca⟩ := c
  go_enter Tryz.func16,Tryz.ntmps16
  go_wp2_with fail
  obtain ⟨hB,hK,hK3⟩ := HG.out _ rfl
  ((with_reducible refine (HC.out _ (HR.out.below hB)).mono ?_); rintro e w2 ⟨k,rfl,hk,hb2⟩)
  obtain rfl : k = 0 := hk.2 rfl
  have HB2 := hid (hB.trans (hb2.mono hB.size))
  have HK2 := hid (hK.kept hb2)
  have HK32 := hid (hK3.kept hb2)
  clear hB hK hK3 hk hb2
  have ai0 : w2.cell? ⟨w.heap.size,0,none⟩ = some (.slice (some ⟨b0,o0,none⟩) n cap) := HK2.out.cell 0
  have ai1 : w2.cell? ⟨w.heap.size,1,none⟩ = some (.int .i64 sh) := HK2.out.cell 1
  have ai2 : w2.cell? ⟨w.heap.size,2,none⟩ = some (.int .i64 ra) := HK2.out.cell 2
  have ai3 : w2.cell? ⟨w.heap.size,3,none⟩ = some (.int .i64 mo) := HK2.out.cell 3
  have ai4 : w2.cell? ⟨w.heap.size,4,none⟩ = some (.int .i64 wk) := HK2.out.cell 4
  have ai5 : w2.cell? ⟨w.heap.size,5,none⟩ = some (.int .i64 ba) := HK2.out.cell 5
  have ai6 : w2.cell? ⟨w.heap.size,6,none⟩ = some (.int .i64 mi) := HK2.out.cell 6
  have ai7 : w2.cell? ⟨w.heap.size,7,none⟩ = some (.int .i64 st) := HK2.out.cell 7
  have ai8 : w2.cell? ⟨w.heap.size,8,none⟩ = some (.int .i64 bu) := HK2.out.cell 8
  have ai9 : w2.cell? ⟨w.heap.size,9,none⟩ = some (.int .i64 ch) := HK2.out.cell 9
  have ai10 : w2.cell? ⟨w.heap.size,10,none⟩ = some (.int .i64 wi) := HK2.out.cell 10
  have ai11 : w2.cell? ⟨w.heap.size,11,none⟩ = some (.int .i64 ca) := HK2.out.cell 11
  have ai12 : w2.cell? ⟨w.heap.size,12,none⟩ = some (.slice S m cS) := HK2.out.cell 12
  have ai13 : w2.cell? ⟨w.heap.size,13,none⟩ = some (.slice AP P cP) := HK2.out.cell 13
  have ai14 : w2.cell? ⟨w.heap.size,14,none⟩ = some (.slice AD D cD) := HK2.out.cell 14
  have ac0 : w2.cell? ⟨w.heap.size + 1,0,none⟩ = some (.slice (some ⟨b0,o0,none⟩) n cap) := HK32.out.cell 0
  have ac1 : w2.cell? ⟨w.heap.size + 1,1,none⟩ = some (.int .i64 sh) := HK32.out.cell 1
  have ac2 : w2.cell? ⟨w.heap.size + 1,2,none⟩ = some (.int .i64 ra) := HK32.out.cell 2
  have ac3 : w2.cell? ⟨w.heap.size + 1,3,none⟩ = some (.int .i64 mo) := HK32.out.cell 3
  have ac4 : w2.cell? ⟨w.heap.size + 1,4,none⟩ = some (.int .i64 wk) := HK32.out.cell 4
  have ac5 : w2.cell? ⟨w.heap.size + 1,5,none⟩ = some (.int .i64 ba) := HK32.out.cell 5
  have ac6 : w2.cell? ⟨w.heap.size + 1,6,none⟩ = some (.int .i64 mi) := HK32.out.cell 6
  have ac7 : w2.cell? ⟨w.heap.size + 1,7,none⟩ = some (.int .i64 st) := HK32.out.cell 7
  have ac8 : w2.cell? ⟨w.heap.size + 1,8,none⟩ = some (.int .i64 bu) := HK32.out.cell 8
  have ac9 : w2.cell? ⟨w.heap.size + 1,9,none⟩ = some (.int .i64 ch) := HK32.out.cell 9
  have ac10 : w2.cell? ⟨w.heap.size + 1,10,none⟩ = some (.int .i64 wi) := HK32.out.cell 10
  have ac11 : w2.cell? ⟨w.heap.size + 1,11,none⟩ = some (.int .i64 ca) := HK32.out.cell 11
  have al1 := HK2.out.lt
  have al2 := HK32.out.lt
  go_wp2_with fail
  ((with_reducible refine (HSN.out w2 (HR.out.below HB2.out)).mono ?_); rintro e w3 ⟨bs,rfl,hsh,hb3⟩)
  clear ai0 ai1 ai2 ai3 ai4 ai5 ai6 ai7 ai8 ai9 ai10 ai11 ai12 ai13 ai14 ac0 ac1 ac2 ac3 ac4 ac5 ac6 ac7 ac8 ac9 ac10 ac11 al1 al2
  have HB3 := hid (HB2.out.trans (hb3.mono HB2.out.size))
  have HK3 := hid (HK2.out.kept hb3)
  have HK33 := hid (HK32.out.kept hb3)
  have HSH := hid hsh
  clear hsh hb3
  have ai0 : w3.cell? ⟨w.heap.size,0,none⟩ = some (.slice (some ⟨b0,o0,none⟩) n cap) := HK3.out.cell 0
  have ai1 : w3.cell? ⟨w.heap.size,1,none⟩ = some (.int .i64 sh) := HK3.out.cell 1
  have ai2 : w3.cell? ⟨w.heap.size,2,none⟩ = some (.int .i64 ra) := HK3.out.cell 2
  have ai3 : w3.cell? ⟨w.heap.size,3,none⟩ = some (.int .i64 mo) := HK3.out.cell 3
  have ai4 : w3.cell? ⟨w.heap.size,4,none⟩ = some (.int .i64 wk) := HK3.out.cell 4
  have ai5 : w3.cell? ⟨w.heap.size,5,none⟩ = some (.int .i64 ba) := HK3.out.cell 5
  have ai6 : w3.cell? ⟨w.heap.size,6,none⟩ = some (.int .i64 mi) := HK3.out.cell 6
  have ai7 : w3.cell? ⟨w.heap.size,7,none⟩ = some (.int .i64 st) := HK3.out.cell 7
  have ai8 : w3.cell? ⟨w.heap.size,8,none⟩ = some (.int .i64 bu) := HK3.out.cell 8
  have ai9 : w3.cell? ⟨w.heap.size,9,none⟩ = some (.int .i64 ch) := HK3.out.cell 9
  have ai10 : w3.cell? ⟨w.heap.size,10,none⟩ = some (.int .i64 wi) := HK3.out.cell 10
  have ai11 : w3.cell? ⟨w.heap.size,11,none⟩ = some (.int .i64 ca) := HK3.out.cell 11
  have ai12 : w3.cell? ⟨w.heap.size,12,none⟩ = some (.slice S m cS) := HK3.out.cell 12
  have ai13 : w3.cell? ⟨w.heap.size,13,none⟩ = some (.slice AP P cP) := HK3.out.cell 13
  have ai14 : w3.cell? ⟨w.heap.size,14,none⟩ = some (.slice AD D cD) := HK3.out.cell 14
  have ac0 : w3.cell? ⟨w.heap.size + 1,0,none⟩ = some (.slice (some ⟨b0,o0,none⟩) n cap) := HK33.out.cell 0
  have ac1 : w3.cell? ⟨w.heap.size + 1,1,none⟩ = some (.int .i64 sh) := HK33.out.cell 1
  have ac2 : w3.cell? ⟨w.heap.size + 1,2,none⟩ = some (.int .i64 ra) := HK33.out.cell 2
  have ac3 : w3.cell? ⟨w.heap.size + 1,3,none⟩ = some (.int .i64 mo) := HK33.out.cell 3
  have ac4 : w3.cell? ⟨w.heap.size + 1,4,none⟩ = some (.int .i64 wk) := HK33.out.cell 4
  have ac5 : w3.cell? ⟨w.heap.size + 1,5,none⟩ = some (.int .i64 ba) := HK33.out.cell 5
  have ac6 : w3.cell? ⟨w.heap.size + 1,6,none⟩ = some (.int .i64 mi) := HK33.out.cell 6
  have ac7 : w3.cell? ⟨w.heap.size + 1,7,none⟩ = some (.int .i64 st) := HK33.out.cell 7
  have ac8 : w3.cell? ⟨w.heap.size + 1,8,none⟩ = some (.int .i64 bu) := HK33.out.cell 8
  have ac9 : w3.cell? ⟨w.heap.size + 1,9,none⟩ = some (.int .i64 ch) := HK33.out.cell 9
  have ac10 : w3.cell? ⟨w.heap.size + 1,10,none⟩ = some (.int .i64 wi) := HK33.out.cell 10
  have ac11 : w3.cell? ⟨w.heap.size + 1,11,none⟩ = some (.int .i64 ca) := HK33.out.cell 11
  have al1 := HK3.out.lt
  have al2 := HK33.out.lt
  have s0 : w3.cell? ⟨b0,o0,none⟩ = some (.int .i64 y0) := (HB3.out.cell (p := ⟨b0,o0,none⟩) lb0).trans HCS.out.1
  have s1 : w3.cell? ⟨b0,o0 + n1,none⟩ = some (.int .i64 y1) := (HB3.out.cell (p := ⟨b0,o0 + n1,none⟩) lb0).trans HCS.out.2
  have lb3 : b0 < w3.heap.size := Nat.lt_of_lt_of_le lb0 HB3.out.size
  have HDD := hid (fun W (k : Kept w3 W) => HDC.out W (HES.out.below (HB3.out.trans (k.2.2.mono HB3.out.size))) y0 y1)
  go_wp2_with fail
  go_region_held3 (fun w' => Kept w3 w') (first | exact kk | exact Kept.start w3) (first
   | (go_at_call 67; (with_reducible refine (HDD.out w3.drew (Kept.start w3)).mono ?_); rintro e w4 ⟨v,rfl,hb4⟩; have kk := (Kept.start w3).call hb4; clear hb4))
  clear ai0 ai1 ai2 ai3 ai4 ai5 ai6 ai7 ai8 ai9 ai10 ai11 ai12 ai13 ai14 ac0 ac1 ac2 ac3 ac4 ac5 ac6 ac7 ac8 ac9 ac10 ac11 al1 al2
  clear s0 s1
  have HB4 := hid (HB3.out.trans (kk.2.2.mono HB3.out.size))
  have HK4 := hid (HK3.out.kept kk.2.2)
  have HK34 := hid (HK33.out.kept kk.2.2)
  have HSH4 := hid (HSH.out.below kk.2.2)
  have HCO := hid (fun W (r : ShapeAt W w2.heap.size bs l n) => shapeCount_any w2.heap.size bs n l W r)
  rw [E9.out,HCTE.out] at HCO
  clear kk
  obtain ⟨qf,hqf⟩ : ∃ q,fitsB es y0 y1 = q := ⟨_,rfl⟩
  rw [hqf] at HO ⊢
  have bi0 : w4.cell? ⟨w.heap.size,0,none⟩ = some (.slice (some ⟨b0,o0,none⟩) n cap) := HK4.out.cell 0
  have bi1 : w4.cell? ⟨w.heap.size,1,none⟩ = some (.int .i64 sh) := HK4.out.cell 1
  have bi2 : w4.cell? ⟨w.heap.size,2,none⟩ = some (.int .i64 ra) := HK4.out.cell 2
  have bi3 : w4.cell? ⟨w.heap.size,3,none⟩ = some (.int .i64 mo) := HK4.out.cell 3
  have bi4 : w4.cell? ⟨w.heap.size,4,none⟩ = some (.int .i64 wk) := HK4.out.cell 4
  have bi5 : w4.cell? ⟨w.heap.size,5,none⟩ = some (.int .i64 ba) := HK4.out.cell 5
  have bi6 : w4.cell? ⟨w.heap.size,6,none⟩ = some (.int .i64 mi) := HK4.out.cell 6
  have bi7 : w4.cell? ⟨w.heap.size,7,none⟩ = some (.int .i64 st) := HK4.out.cell 7
  have bi8 : w4.cell? ⟨w.heap.size,8,none⟩ = some (.int .i64 bu) := HK4.out.cell 8
  have bi9 : w4.cell? ⟨w.heap.size,9,none⟩ = some (.int .i64 ch) := HK4.out.cell 9
  have bi10 : w4.cell? ⟨w.heap.size,10,none⟩ = some (.int .i64 wi) := HK4.out.cell 10
  have bi11 : w4.cell? ⟨w.heap.size,11,none⟩ = some (.int .i64 ca) := HK4.out.cell 11
  have bi12 : w4.cell? ⟨w.heap.size,12,none⟩ = some (.slice S m cS) := HK4.out.cell 12
  have bi13 : w4.cell? ⟨w.heap.size,13,none⟩ = some (.slice AP P cP) := HK4.out.cell 13
  have bi14 : w4.cell? ⟨w.heap.size,14,none⟩ = some (.slice AD D cD) := HK4.out.cell 14
  have bc0 : w4.cell? ⟨w.heap.size + 1,0,none⟩ = some (.slice (some ⟨b0,o0,none⟩) n cap) := HK34.out.cell 0
  have bc1 : w4.cell? ⟨w.heap.size + 1,1,none⟩ = some (.int .i64 sh) := HK34.out.cell 1
  have bc2 : w4.cell? ⟨w.heap.size + 1,2,none⟩ = some (.int .i64 ra) := HK34.out.cell 2
  have bc3 : w4.cell? ⟨w.heap.size + 1,3,none⟩ = some (.int .i64 mo) := HK34.out.cell 3
  have bc4 : w4.cell? ⟨w.heap.size + 1,4,none⟩ = some (.int .i64 wk) := HK34.out.cell 4
  have bc5 : w4.cell? ⟨w.heap.size + 1,5,none⟩ = some (.int .i64 ba) := HK34.out.cell 5
  have bc6 : w4.cell? ⟨w.heap.size + 1,6,none⟩ = some (.int .i64 mi) := HK34.out.cell 6
  have bc7 : w4.cell? ⟨w.heap.size + 1,7,none⟩ = some (.int .i64 st) := HK34.out.cell 7
  have bc8 : w4.cell? ⟨w.heap.size + 1,8,none⟩ = some (.int .i64 bu) := HK34.out.cell 8
  have bc9 : w4.cell? ⟨w.heap.size + 1,9,none⟩ = some (.int .i64 ch) := HK34.out.cell 9
  have bc10 : w4.cell? ⟨w.heap.size + 1,10,none⟩ = some (.int .i64 wi) := HK34.out.cell 10
  have bc11 : w4.cell? ⟨w.heap.size + 1,11,none⟩ = some (.int .i64 ca) := HK34.out.cell 11
  have bl1 := HK4.out.lt
  have bl2 := HK34.out.lt
  by_cases hb : ba <= (m : Int)
  case neg =>
   have f1 : decide ((m : Int) < ba) = true := decide_eq_true (by omega)
   have HOF := hid (HO.out.trans (by rw [decide_eq_false hb] <;> rfl))
   clear hb hqf
   go_wp2_with fail
   go_ret
   exact ⟨7,rfl,by rw [HOF.out]; simp,HB4.out⟩
  have f1 : decide ((m : Int) < ba) = false := decide_eq_false (by omega)
  have f2 : decide ((1048576 : Int) < (m : Int)) = false := decide_eq_false (by omega)
  have HO2 := hid (HO.out.trans (by rw [decide_eq_true hb,Bool.true_and]))
  have HBA := hid hb
  clear hb
  clear hqf
  cases qf
  case false =>
   have HOF := hid (HO2.out.trans rfl)
   go_wp2_with fail
   refine wp_region_kept w4 (by kernel_rfl) (by kernel_rfl) (Kept.of (Below.refl _ _)) ?_
   repeat (go_big_quiet_step (fail))
   refine wpQuiet_nil ?_
   rintro _ ⟨⟨w5,k5⟩,rfl⟩
   clear bi0 bi1 bi2 bi3 bi4 bi5 bi6 bi7 bi8 bi9 bi10 bi11 bi12 bi13 bi14 bc0 bc1 bc2 bc3 bc4 bc5 bc6 bc7 bc8 bc9 bc10 bc11 bl1 bl2
   have HB5 := hid (HB4.out.trans (k5.2.2.mono HB4.out.size))
   clear k5
   go_wp2_with fail
   go_ret
   exact ⟨5,rfl,by rw [HOF.out]; simp,HB5.out⟩
  case true =>
   have HO3 := hid (HO2.out.trans (Bool.true_and _))
   by_cases hp : (P : Int) = ct
   case neg =>
    have f3 : ((P : Int) != ct) = true := by simp [hp]
    have HOF := hid (HO3.out.trans (by rw [decide_eq_false hp] <;> rfl))
    clear hp
    go_wp2_with fail
    go_region_held3 (fun w' => Kept w4 w') (first | exact kk | exact Kept.start w4) (first
     | (go_at_call 43; (with_reducible refine (HCO.out w4.drew (HSH4.out.below (Kept.start w4).2.2)).mono ?_); rintro e w5 ⟨rfl,hw5⟩; subst hw5; have kk := Kept.start w4))
    obtain ⟨w5,hw5⟩ : ∃ w5,w5 = w4.drew := ⟨_,rfl⟩
    rw [<- hw5] at kk ⊢
    clear hw5
    have k5 := kk
    clear kk
    clear bi0 bi1 bi2 bi3 bi4 bi5 bi6 bi7 bi8 bi9 bi10 bi11 bi12 bi13 bi14 bc0 bc1 bc2 bc3 bc4 bc5 bc6 bc7 bc8 bc9 bc10 bc11 bl1 bl2
    have HB5 := hid (HB4.out.trans (k5.2.2.mono HB4.out.size))
    clear k5
    go_wp2_with fail
    go_ret
    exact ⟨5,rfl,by rw [HOF.out]; simp,HB5.out⟩
   case pos =>
    have f3 : ((P : Int) != ct) = false := by simp [hp]
    have HO4 := hid (HO3.out.trans (by rw [decide_eq_true hp,Bool.true_and]))
    clear hp
    go_wp2_with fail
    go_region_held3 (fun w' => Kept w4 w') (first | exact kk | exact Kept.start w4) (first
     | (go_at_call 43; (with_reducible refine (HCO.out w4.drew (HSH4.out.below (Kept.start w4).2.2)).mono ?_); rintro e w5 ⟨rfl,hw5⟩; subst hw5; have kk := Kept.start w4))
    obtain ⟨w5,hw5⟩ : ∃ w5,w5 = w4.drew := ⟨_,rfl⟩
    rw [<- hw5] at kk ⊢
    clear hw5
    have k5 := kk
    clear kk
    clear bi0 bi1 bi2 bi3 bi4 bi5 bi6 bi7 bi8 bi9 bi10 bi11 bi12 bi13 bi14 bc0 bc1 bc2 bc3 bc4 bc5 bc6 bc7 bc8 bc9 bc10 bc11 bl1 bl2
    have HB5 := hid (HB4.out.trans (k5.2.2.mono HB4.out.size))
    have HK5 := hid (HK4.out.kept k5.2.2)
    have HK35 := hid (HK34.out.kept k5.2.2)
    clear k5
    have di0 : w5.cell? ⟨w.heap.size,0,none⟩ = some (.slice (some ⟨b0,o0,none⟩) n cap) := HK5.out.cell 0
    have di1 : w5.cell? ⟨w.heap.size,1,none⟩ = some (.int .i64 sh) := HK5.out.cell 1
    have di2 : w5.cell? ⟨w.heap.size,2,none⟩ = some (.int .i64 ra) := HK5.out.cell 2
    have di3 : w5.cell? ⟨w.heap.size,3,none⟩ = some (.int .i64 mo) := HK5.out.cell 3
    have di4 : w5.cell? ⟨w.heap.size,4,none⟩ = some (.int .i64 wk) := HK5.out.cell 4
    have di5 : w5.cell? ⟨w.heap.size,5,none⟩ = some (.int .i64 ba) := HK5.out.cell 5
    have di6 : w5.cell? ⟨w.heap.size,6,none⟩ = some (.int .i64 mi) := HK5.out.cell 6
    have di7 : w5.cell? ⟨w.heap.size,7,none⟩ = some (.int .i64 st) := HK5.out.cell 7
    have di8 : w5.cell? ⟨w.heap.size,8,none⟩ = some (.int .i64 bu) := HK5.out.cell 8
    have di9 : w5.cell? ⟨w.heap.size,9,none⟩ = some (.int .i64 ch) := HK5.out.cell 9
    have di10 : w5.cell? ⟨w.heap.size,10,none⟩ = some (.int .i64 wi) := HK5.out.cell 10
    have di11 : w5.cell? ⟨w.heap.size,11,none⟩ = some (.int .i64 ca) := HK5.out.cell 11
    have di12 : w5.cell? ⟨w.heap.size,12,none⟩ = some (.slice S m cS) := HK5.out.cell 12
    have di13 : w5.cell? ⟨w.heap.size,13,none⟩ = some (.slice AP P cP) := HK5.out.cell 13
    have di14 : w5.cell? ⟨w.heap.size,14,none⟩ = some (.slice AD D cD) := HK5.out.cell 14
    have dc0 : w5.cell? ⟨w.heap.size + 1,0,none⟩ = some (.slice (some ⟨b0,o0,none⟩) n cap) := HK35.out.cell 0
    have dc1 : w5.cell? ⟨w.heap.size + 1,1,none⟩ = some (.int .i64 sh) := HK35.out.cell 1
    have dc2 : w5.cell? ⟨w.heap.size + 1,2,none⟩ = some (.int .i64 ra) := HK35.out.cell 2
    have dc3 : w5.cell? ⟨w.heap.size + 1,3,none⟩ = some (.int .i64 mo) := HK35.out.cell 3
    have dc4 : w5.cell? ⟨w.heap.size + 1,4,none⟩ = some (.int .i64 wk) := HK35.out.cell 4
    have dc5 : w5.cell? ⟨w.heap.size + 1,5,none⟩ = some (.int .i64 ba) := HK35.out.cell 5
    have dc6 : w5.cell? ⟨w.heap.size + 1,6,none⟩ = some (.int .i64 mi) := HK35.out.cell 6
    have dc7 : w5.cell? ⟨w.heap.size + 1,7,none⟩ = some (.int .i64 st) := HK35.out.cell 7
    have dc8 : w5.cell? ⟨w.heap.size + 1,8,none⟩ = some (.int .i64 bu) := HK35.out.cell 8
    have dc9 : w5.cell? ⟨w.heap.size + 1,9,none⟩ = some (.int .i64 ch) := HK35.out.cell 9
    have dc10 : w5.cell? ⟨w.heap.size + 1,10,none⟩ = some (.int .i64 wi) := HK35.out.cell 10
    have dc11 : w5.cell? ⟨w.heap.size + 1,11,none⟩ = some (.int .i64 ca) := HK35.out.cell 11
    have dl1 := HK5.out.lt
    have dl2 := HK35.out.lt
    have HNB := hid (HNN.out HBA.out)
    have hnb := HNB.out
    by_cases hd : nd <= D
    case neg =>
     have f4 : decide ((D : Int) < (nd : Int)) = true := decide_eq_true (by omega)
     have f5 : decide (D < nd) = true := decide_eq_true (by omega)
     have HOF := hid (HO4.out.trans (decide_eq_false hd))
     clear hd
     go_wp2_with fail
     go_region_held3 (fun w' => Kept w5 w') (first | exact kk | exact Kept.start w5) (first
      | (go_at_call 68; (with_reducible refine (HND.out w5.drew ((HR.out.below HB5.out).below (Kept.start w5).2.2) HBA.out).mono ?_); rintro e w6 ⟨rfl,hb6⟩; have kk := (Kept.start w5).call hb6; clear hb6))
     have k6 := kk
     clear kk
     clear di0 di1 di2 di3 di4 di5 di6 di7 di8 di9 di10 di11 di12 di13 di14 dc0 dc1 dc2 dc3 dc4 dc5 dc6 dc7 dc8 dc9 dc10 dc11 dl1 dl2
     have HB6 := hid (HB5.out.trans (k6.2.2.mono HB5.out.size))
     clear k6
     go_wp2_with fail
     go_ret
     exact ⟨8,rfl,by rw [HOF.out]; simp,HB6.out⟩
    case pos =>
     have f4 : decide ((D : Int) < (nd : Int)) = false := decide_eq_false (by omega)
     have f5 : decide (D < nd) = false := decide_eq_false (by omega)
     have HOF := hid (HO4.out.trans (decide_eq_true hd))
     clear hd
     go_wp2_with fail
     go_region_held3 (fun w' => Kept w5 w') (first | exact kk | exact Kept.start w5) (first
      | (go_at_call 68; (with_reducible refine (HND.out w5.drew ((HR.out.below HB5.out).below (Kept.start w5).2.2) HBA.out).mono ?_); rintro e w6 ⟨rfl,hb6⟩; have kk := (Kept.start w5).call hb6; clear hb6))
     have k6 := kk
     clear kk
     clear di0 di1 di2 di3 di4 di5 di6 di7 di8 di9 di10 di11 di12 di13 di14 dc0 dc1 dc2 dc3 dc4 dc5 dc6 dc7 dc8 dc9 dc10 dc11 dl1 dl2
     have HB6 := hid (HB5.out.trans (k6.2.2.mono HB5.out.size))
     clear k6
     go_wp2_with fail
     go_ret
     exact ⟨0,rfl,by rw [HOF.out]; simp,HB6.out⟩
theorem refInput_any (hl : l.length = n) (h : Rd w 1 A n (iv l)) (hcap : n <= cap) (hn : n <= 1000) (hel : es.length = m) (hes : Rd w 2 S m (exV es)) (hm : m <= 1000) (hP : P <= 1000000) (hD : D <= 1000000) (hst : okCfg l c = true -> c.st <= 1000) :
  Calls Tryz.prog 9 #[inV A n cap c S m cS AP P cP AD D cD] w (CodeRet (okIn l c es m P D) w) := by
 have HG : Hid (∀ W,(w.alloc (.cells (inC A n cap c S m cS AP P cP AD D cD) 29)).alloc (.cells (cfgC A n cap c) 24) = W -> Below w.heap.size w W /\ Blk W w.heap.size 29 (inC A n cap c S m cS AP P cP AD D cD) /\ Blk W (w.heap.size + 1) 24 (cfgC A n cap c)) := hid (by
  rintro W rfl
  exact ⟨((Below.refl _ _).alloc (Nat.le_refl _) _).alloc (by simp) _,(Blk.new w _ _).alloc _,Blk.new' _ _ (by simp)⟩)
 have HL := hid hl
 have HR := hid h
 have C := fun W (r : Rd W 1 A n (iv l)) => refConf_any A n cap l c W hl r (by omega)
 by_cases hok : okCfg l c = true
 case neg =>
  have hok : okCfg l c = false := by simpa using hok
  rw [hok] at C
  have HC := hid C
  have HO : Hid (okIn l c es m P D = false) := hid (by rw [okIn,hok]; rfl)
  clear hl h C hok hel hes hst
  obtain ⟨sh,ra,mo,wk,ba,mi,st,bu,ch,wi,ca⟩ := c
  go_enter Tryz.func9,Tryz.ntmps9
  go_wp2_with fail
  obtain ⟨hB,hK,hK3⟩ := HG.out _ rfl
  ((with_reducible refine (HC.out _ (HR.out.below hB)).mono ?_); rintro e w2 ⟨k,rfl,hk,hb2⟩)
  have hk0 : k ≠ 0 := fun e => by have := hk.1 e; cases this
  have e5 : (k != 0) = true := by simp [hk0]
  have HB2 := hid (hB.trans (hb2.mono hB.size))
  have HK0 := hid hk0
  clear hB hK hK3 hk hb2 hk0
  go_wp2_with fail
  go_ret
  exact ⟨k,rfl,by rw [HO.out]; simp [HK0.out],HB2.out⟩
 case pos =>
  rw [hok] at C
  have HC := hid C
  obtain ⟨_,_,hsz,_,_,_,_,_,_,hba⟩ := okCfg_nums hok
  obtain ⟨n2,n16,hwr,hcnt⟩ := sizesB_nums hsz
  rw [hl] at n2 n16 hcnt
  have HO : Hid (okIn l c es m P D = (decide (c.ba <= m) && (fitsB es (l.getD 0 0) (l.getD (n - 1) 0) && (decide ((P : Int) = cntS l (n - 1)) && decide (needN c m <= D))))) := hid (by rw [okIn,hok,hl]; rfl)
  have HDC := hid (fun W (r : Rd W 2 S m (exV es)) i o => refCheck10_any S m cS es i o W hel r (by omega))
  have HND := hid (fun W (r : Rd W 1 A n (iv l)) (hb : c.ba <= m) => refNeed11_any A n cap l c m W hl r hcap hn hok hb hm (hst hok))
  have HCT := hid (fun W (r : Rd W 1 A n (iv l)) => refCount08_any A n cap l W hl r n16 hwr)
  have HES := hid hes
  have HCN := hid hcnt
  obtain ⟨y0,hy0⟩ : ∃ y,l[0]? = some y := ⟨_,List.getElem?_eq_getElem (by omega)⟩
  obtain ⟨y1,hy1⟩ : ∃ y,l[n - 1]? = some y := ⟨_,List.getElem?_eq_getElem (by omega)⟩
  rw [show l.getD 0 0 = y0 by simp [List.getD,hy0],show l.getD (n - 1) 0 = y1 by simp [List.getD,hy1]] at HO
  have HY0 := hid hy0
  have HY1 := hid hy1
  have HNN : Hid (c.ba <= m -> (needN c m : Int) <= 1099511627776) := hid (fun hb => by
   have h1 : cnt c.st.toNat (m / c.ba.toNat) <= 1048576 := cnt_lt _ _ (by have := (okCfg_nums hok).2.2.2.2.2.2.2.2.1; omega)
   have : needN c m <= 1048576 * 1000 := Nat.mul_le_mul h1 (by omega)
   omega)
  obtain ⟨nd,hnd⟩ : ∃ nd,needN c m = nd := ⟨_,rfl⟩
  rw [hnd] at HO HNN HND
  obtain ⟨b0,o0,rfl,lb0,hcs⟩ := h.2 (by omega)
  have HCS := hid (show w.cell? ⟨b0,o0,none⟩ = some (.int .i64 y0) /\ w.cell? ⟨b0,o0 + (n - 1),none⟩ = some (.int .i64 y1) from ⟨hcs 0 _ (by rw [iv,List.getElem?_map,hy0]; rfl),hcs (n - 1) _ (by rw [iv,List.getElem?_map,hy1]; rfl)⟩)
  obtain ⟨n1,e9⟩ : ∃ n1,n - 1 = n1 := ⟨_,rfl⟩
  have hn1 : n = n1 + 1 := by omega
  have hsub : IntKind.i64.wrap ((n : Int) - 1) = (n1 : Int) := by rw [show (n : Int) - 1 = (n1 : Int) by omega]; exact IntWalk.i64_in _ (by omega)
  have E9 := hid e9
  have j1 : 0 < n := by omega
  have j3 : n1 < n := by omega
  have i1 : (0 : Int) < (n : Int) := by omega
  have i2 : (0 : Int) <= (n1 : Int) := by omega
  have i3 : (n1 : Int) < (n : Int) := by omega
  rw [e9] at HO HCS HCN hy1
  rw [e9] at HCT
  obtain ⟨ct,hct⟩ : ∃ ct,cntS l n1 = ct := ⟨_,rfl⟩
  rw [hct] at HO HCN HCT
  skip
  clear hl h C hok hel hes hcs hwr hsz hcnt hba hy0 hy1 hnd hct e9 hn1 hst
  obtain ⟨sh,ra,mo,wk,ba,mi,st,bu,ch,wi,ca⟩ := c
  go_enter Tryz.func9,Tryz.ntmps9
  go_wp2_with fail
  obtain ⟨hB,hK,hK3⟩ := HG.out _ rfl
  ((with_reducible refine (HC.out _ (HR.out.below hB)).mono ?_); rintro e w2 ⟨k,rfl,hk,hb2⟩)
  obtain rfl : k = 0 := hk.2 rfl
  have HB2 := hid (hB.trans (hb2.mono hB.size))
  have HK2 := hid (hK.kept hb2)
  have HK32 := hid (hK3.kept hb2)
  clear hB hK hK3 hk hb2
  have HB3 := hid HB2.out
  have HK3 := hid HK2.out
  have HK33 := hid HK32.out
  obtain ⟨w3,hw3⟩ : ∃ w3,w3 = w2 := ⟨_,rfl⟩
  rw [<- hw3] at HB3 HK3 HK33 ⊢
  clear hw3
  have ai0 : w3.cell? ⟨w.heap.size,0,none⟩ = some (.slice (some ⟨b0,o0,none⟩) n cap) := HK3.out.cell 0
  have ai1 : w3.cell? ⟨w.heap.size,1,none⟩ = some (.int .i64 sh) := HK3.out.cell 1
  have ai2 : w3.cell? ⟨w.heap.size,2,none⟩ = some (.int .i64 ra) := HK3.out.cell 2
  have ai3 : w3.cell? ⟨w.heap.size,3,none⟩ = some (.int .i64 mo) := HK3.out.cell 3
  have ai4 : w3.cell? ⟨w.heap.size,4,none⟩ = some (.int .i64 wk) := HK3.out.cell 4
  have ai5 : w3.cell? ⟨w.heap.size,5,none⟩ = some (.int .i64 ba) := HK3.out.cell 5
  have ai6 : w3.cell? ⟨w.heap.size,6,none⟩ = some (.int .i64 mi) := HK3.out.cell 6
  have ai7 : w3.cell? ⟨w.heap.size,7,none⟩ = some (.int .i64 st) := HK3.out.cell 7
  have ai8 : w3.cell? ⟨w.heap.size,8,none⟩ = some (.int .i64 bu) := HK3.out.cell 8
  have ai9 : w3.cell? ⟨w.heap.size,9,none⟩ = some (.int .i64 ch) := HK3.out.cell 9
  have ai10 : w3.cell? ⟨w.heap.size,10,none⟩ = some (.int .i64 wi) := HK3.out.cell 10
  have ai11 : w3.cell? ⟨w.heap.size,11,none⟩ = some (.int .i64 ca) := HK3.out.cell 11
  have ai12 : w3.cell? ⟨w.heap.size,12,none⟩ = some (.slice S m cS) := HK3.out.cell 12
  have ai13 : w3.cell? ⟨w.heap.size,13,none⟩ = some (.slice AP P cP) := HK3.out.cell 13
  have ai14 : w3.cell? ⟨w.heap.size,14,none⟩ = some (.slice AD D cD) := HK3.out.cell 14
  have ac0 : w3.cell? ⟨w.heap.size + 1,0,none⟩ = some (.slice (some ⟨b0,o0,none⟩) n cap) := HK33.out.cell 0
  have ac1 : w3.cell? ⟨w.heap.size + 1,1,none⟩ = some (.int .i64 sh) := HK33.out.cell 1
  have ac2 : w3.cell? ⟨w.heap.size + 1,2,none⟩ = some (.int .i64 ra) := HK33.out.cell 2
  have ac3 : w3.cell? ⟨w.heap.size + 1,3,none⟩ = some (.int .i64 mo) := HK33.out.cell 3
  have ac4 : w3.cell? ⟨w.heap.size + 1,4,none⟩ = some (.int .i64 wk) := HK33.out.cell 4
  have ac5 : w3.cell? ⟨w.heap.size + 1,5,none⟩ = some (.int .i64 ba) := HK33.out.cell 5
  have ac6 : w3.cell? ⟨w.heap.size + 1,6,none⟩ = some (.int .i64 mi) := HK33.out.cell 6
  have ac7 : w3.cell? ⟨w.heap.size + 1,7,none⟩ = some (.int .i64 st) := HK33.out.cell 7
  have ac8 : w3.cell? ⟨w.heap.size + 1,8,none⟩ = some (.int .i64 bu) := HK33.out.cell 8
  have ac9 : w3.cell? ⟨w.heap.size + 1,9,none⟩ = some (.int .i64 ch) := HK33.out.cell 9
  have ac10 : w3.cell? ⟨w.heap.size + 1,10,none⟩ = some (.int .i64 wi) := HK33.out.cell 10
  have ac11 : w3.cell? ⟨w.heap.size + 1,11,none⟩ = some (.int .i64 ca) := HK33.out.cell 11
  have al1 := HK3.out.lt
  have al2 := HK33.out.lt
  have HBT := hid (fun W => between_any (m : Int) ba 1048576 W)
  by_cases hb : ba <= (m : Int)
  case neg =>
   have hq : btB (m : Int) ba 1048576 = false := by cases hq : btB (m : Int) ba 1048576 with | false => rfl | true => exact absurd ((btB_iff _ _ _).1 hq).1 hb
   rw [hq] at HBT
   have HOF := hid (HO.out.trans (by rw [decide_eq_false hb] <;> rfl))
   clear hb hq
   go_wp2_with fail
   ((with_reducible refine (HBT.out w3).mono ?_); rintro e w4 ⟨rfl,rfl⟩)
   go_wp2_with fail
   go_ret
   exact ⟨7,rfl,by rw [HOF.out]; simp,HB3.out⟩
  have hq : btB (m : Int) ba 1048576 = true := (btB_iff _ _ _).2 ⟨hb,by omega⟩
  rw [hq] at HBT
  have HO2 := hid (HO.out.trans (by rw [decide_eq_true hb,Bool.true_and]))
  have HBA := hid hb
  clear hb hq
  go_wp2_with fail
  ((with_reducible refine (HBT.out w3).mono ?_); rintro e w4 ⟨rfl,rfl⟩)
  clear HBT
  clear ai0 ai1 ai2 ai3 ai4 ai5 ai6 ai7 ai8 ai9 ai10 ai11 ai12 ai13 ai14 ac0 ac1 ac2 ac3 ac4 ac5 ac6 ac7 ac8 ac9 ac10 ac11 al1 al2
  have ai0 : w3.cell? ⟨w.heap.size,0,none⟩ = some (.slice (some ⟨b0,o0,none⟩) n cap) := HK3.out.cell 0
  have ai1 : w3.cell? ⟨w.heap.size,1,none⟩ = some (.int .i64 sh) := HK3.out.cell 1
  have ai2 : w3.cell? ⟨w.heap.size,2,none⟩ = some (.int .i64 ra) := HK3.out.cell 2
  have ai3 : w3.cell? ⟨w.heap.size,3,none⟩ = some (.int .i64 mo) := HK3.out.cell 3
  have ai4 : w3.cell? ⟨w.heap.size,4,none⟩ = some (.int .i64 wk) := HK3.out.cell 4
  have ai5 : w3.cell? ⟨w.heap.size,5,none⟩ = some (.int .i64 ba) := HK3.out.cell 5
  have ai6 : w3.cell? ⟨w.heap.size,6,none⟩ = some (.int .i64 mi) := HK3.out.cell 6
  have ai7 : w3.cell? ⟨w.heap.size,7,none⟩ = some (.int .i64 st) := HK3.out.cell 7
  have ai8 : w3.cell? ⟨w.heap.size,8,none⟩ = some (.int .i64 bu) := HK3.out.cell 8
  have ai9 : w3.cell? ⟨w.heap.size,9,none⟩ = some (.int .i64 ch) := HK3.out.cell 9
  have ai10 : w3.cell? ⟨w.heap.size,10,none⟩ = some (.int .i64 wi) := HK3.out.cell 10
  have ai11 : w3.cell? ⟨w.heap.size,11,none⟩ = some (.int .i64 ca) := HK3.out.cell 11
  have ai12 : w3.cell? ⟨w.heap.size,12,none⟩ = some (.slice S m cS) := HK3.out.cell 12
  have ai13 : w3.cell? ⟨w.heap.size,13,none⟩ = some (.slice AP P cP) := HK3.out.cell 13
  have ai14 : w3.cell? ⟨w.heap.size,14,none⟩ = some (.slice AD D cD) := HK3.out.cell 14
  have ac0 : w3.cell? ⟨w.heap.size + 1,0,none⟩ = some (.slice (some ⟨b0,o0,none⟩) n cap) := HK33.out.cell 0
  have ac1 : w3.cell? ⟨w.heap.size + 1,1,none⟩ = some (.int .i64 sh) := HK33.out.cell 1
  have ac2 : w3.cell? ⟨w.heap.size + 1,2,none⟩ = some (.int .i64 ra) := HK33.out.cell 2
  have ac3 : w3.cell? ⟨w.heap.size + 1,3,none⟩ = some (.int .i64 mo) := HK33.out.cell 3
  have ac4 : w3.cell? ⟨w.heap.size + 1,4,none⟩ = some (.int .i64 wk) := HK33.out.cell 4
  have ac5 : w3.cell? ⟨w.heap.size + 1,5,none⟩ = some (.int .i64 ba) := HK33.out.cell 5
  have ac6 : w3.cell? ⟨w.heap.size + 1,6,none⟩ = some (.int .i64 mi) := HK33.out.cell 6
  have ac7 : w3.cell? ⟨w.heap.size + 1,7,none⟩ = some (.int .i64 st) := HK33.out.cell 7
  have ac8 : w3.cell? ⟨w.heap.size + 1,8,none⟩ = some (.int .i64 bu) := HK33.out.cell 8
  have ac9 : w3.cell? ⟨w.heap.size + 1,9,none⟩ = some (.int .i64 ch) := HK33.out.cell 9
  have ac10 : w3.cell? ⟨w.heap.size + 1,10,none⟩ = some (.int .i64 wi) := HK33.out.cell 10
  have ac11 : w3.cell? ⟨w.heap.size + 1,11,none⟩ = some (.int .i64 ca) := HK33.out.cell 11
  have al1 := HK3.out.lt
  have al2 := HK33.out.lt
  have s0 : w3.cell? ⟨b0,o0,none⟩ = some (.int .i64 y0) := (HB3.out.cell (p := ⟨b0,o0,none⟩) lb0).trans HCS.out.1
  have s1 : w3.cell? ⟨b0,o0 + n1,none⟩ = some (.int .i64 y1) := (HB3.out.cell (p := ⟨b0,o0 + n1,none⟩) lb0).trans HCS.out.2
  have lb3 : b0 < w3.heap.size := Nat.lt_of_lt_of_le lb0 HB3.out.size
  have HDD := hid (fun W (k : Kept w3 W) => HDC.out W (HES.out.below (HB3.out.trans (k.2.2.mono HB3.out.size))) y0 y1)
  go_wp2_with fail
  go_region_held3 (fun w' => Kept w3 w') (first | exact kk | exact Kept.start w3) (first
   | (go_at_call 36; (with_reducible refine (HDD.out w3.drew (Kept.start w3)).mono ?_); rintro e w4 ⟨v,rfl,hb4⟩; have kk := (Kept.start w3).call hb4; clear hb4))
  clear ai0 ai1 ai2 ai3 ai4 ai5 ai6 ai7 ai8 ai9 ai10 ai11 ai12 ai13 ai14 ac0 ac1 ac2 ac3 ac4 ac5 ac6 ac7 ac8 ac9 ac10 ac11 al1 al2
  clear s0 s1
  have HB4 := hid (HB3.out.trans (kk.2.2.mono HB3.out.size))
  have HK4 := hid (HK3.out.kept kk.2.2)
  have HK34 := hid (HK33.out.kept kk.2.2)
  clear kk
  obtain ⟨qf,hqf⟩ : ∃ q,fitsB es y0 y1 = q := ⟨_,rfl⟩
  rw [hqf] at HO HO2 ⊢
  have bi0 : w4.cell? ⟨w.heap.size,0,none⟩ = some (.slice (some ⟨b0,o0,none⟩) n cap) := HK4.out.cell 0
  have bi1 : w4.cell? ⟨w.heap.size,1,none⟩ = some (.int .i64 sh) := HK4.out.cell 1
  have bi2 : w4.cell? ⟨w.heap.size,2,none⟩ = some (.int .i64 ra) := HK4.out.cell 2
  have bi3 : w4.cell? ⟨w.heap.size,3,none⟩ = some (.int .i64 mo) := HK4.out.cell 3
  have bi4 : w4.cell? ⟨w.heap.size,4,none⟩ = some (.int .i64 wk) := HK4.out.cell 4
  have bi5 : w4.cell? ⟨w.heap.size,5,none⟩ = some (.int .i64 ba) := HK4.out.cell 5
  have bi6 : w4.cell? ⟨w.heap.size,6,none⟩ = some (.int .i64 mi) := HK4.out.cell 6
  have bi7 : w4.cell? ⟨w.heap.size,7,none⟩ = some (.int .i64 st) := HK4.out.cell 7
  have bi8 : w4.cell? ⟨w.heap.size,8,none⟩ = some (.int .i64 bu) := HK4.out.cell 8
  have bi9 : w4.cell? ⟨w.heap.size,9,none⟩ = some (.int .i64 ch) := HK4.out.cell 9
  have bi10 : w4.cell? ⟨w.heap.size,10,none⟩ = some (.int .i64 wi) := HK4.out.cell 10
  have bi11 : w4.cell? ⟨w.heap.size,11,none⟩ = some (.int .i64 ca) := HK4.out.cell 11
  have bi12 : w4.cell? ⟨w.heap.size,12,none⟩ = some (.slice S m cS) := HK4.out.cell 12
  have bi13 : w4.cell? ⟨w.heap.size,13,none⟩ = some (.slice AP P cP) := HK4.out.cell 13
  have bi14 : w4.cell? ⟨w.heap.size,14,none⟩ = some (.slice AD D cD) := HK4.out.cell 14
  have bc0 : w4.cell? ⟨w.heap.size + 1,0,none⟩ = some (.slice (some ⟨b0,o0,none⟩) n cap) := HK34.out.cell 0
  have bc1 : w4.cell? ⟨w.heap.size + 1,1,none⟩ = some (.int .i64 sh) := HK34.out.cell 1
  have bc2 : w4.cell? ⟨w.heap.size + 1,2,none⟩ = some (.int .i64 ra) := HK34.out.cell 2
  have bc3 : w4.cell? ⟨w.heap.size + 1,3,none⟩ = some (.int .i64 mo) := HK34.out.cell 3
  have bc4 : w4.cell? ⟨w.heap.size + 1,4,none⟩ = some (.int .i64 wk) := HK34.out.cell 4
  have bc5 : w4.cell? ⟨w.heap.size + 1,5,none⟩ = some (.int .i64 ba) := HK34.out.cell 5
  have bc6 : w4.cell? ⟨w.heap.size + 1,6,none⟩ = some (.int .i64 mi) := HK34.out.cell 6
  have bc7 : w4.cell? ⟨w.heap.size + 1,7,none⟩ = some (.int .i64 st) := HK34.out.cell 7
  have bc8 : w4.cell? ⟨w.heap.size + 1,8,none⟩ = some (.int .i64 bu) := HK34.out.cell 8
  have bc9 : w4.cell? ⟨w.heap.size + 1,9,none⟩ = some (.int .i64 ch) := HK34.out.cell 9
  have bc10 : w4.cell? ⟨w.heap.size + 1,10,none⟩ = some (.int .i64 wi) := HK34.out.cell 10
  have bc11 : w4.cell? ⟨w.heap.size + 1,11,none⟩ = some (.int .i64 ca) := HK34.out.cell 11
  have bl1 := HK4.out.lt
  have bl2 := HK34.out.lt
  clear hqf
  cases qf
  case false =>
   have HOF := hid (HO2.out.trans rfl)
   go_wp2_with fail
   refine wp_region_kept w4 (by kernel_rfl) (by kernel_rfl) (Kept.of (Below.refl _ _)) ?_
   repeat (go_big_quiet_step (fail))
   refine wpQuiet_nil ?_
   rintro _ ⟨⟨w5,k5⟩,rfl⟩
   clear bi0 bi1 bi2 bi3 bi4 bi5 bi6 bi7 bi8 bi9 bi10 bi11 bi12 bi13 bi14 bc0 bc1 bc2 bc3 bc4 bc5 bc6 bc7 bc8 bc9 bc10 bc11 bl1 bl2
   have HB5 := hid (HB4.out.trans (k5.2.2.mono HB4.out.size))
   clear k5
   go_wp2_with fail
   go_ret
   exact ⟨5,rfl,by rw [HOF.out]; simp,HB5.out⟩
  case true =>
   have HO3 := hid (HO2.out.trans (Bool.true_and _))
   by_cases hp : (P : Int) = ct
   case neg =>
    have f3 : ((P : Int) != ct) = true := by simp [hp]
    have HOF := hid (HO3.out.trans (by rw [decide_eq_false hp] <;> rfl))
    clear hp
    go_wp2_with fail
    go_region_held3 (fun w' => Kept w4 w') (first | exact kk | exact Kept.start w4) (first
     | (go_at_call 37; (with_reducible refine (HCT.out w4.drew ((HR.out.below HB4.out).below (Kept.start w4).2.2)).mono ?_); rintro e w5 ⟨rfl,hb5⟩; have kk := (Kept.start w4).call hb5; clear hb5))
    skip
    skip
    skip
    have k5 := kk
    clear kk
    clear bi0 bi1 bi2 bi3 bi4 bi5 bi6 bi7 bi8 bi9 bi10 bi11 bi12 bi13 bi14 bc0 bc1 bc2 bc3 bc4 bc5 bc6 bc7 bc8 bc9 bc10 bc11 bl1 bl2
    have HB5 := hid (HB4.out.trans (k5.2.2.mono HB4.out.size))
    clear k5
    go_wp2_with fail
    go_ret
    exact ⟨5,rfl,by rw [HOF.out]; simp,HB5.out⟩
   case pos =>
    have f3 : ((P : Int) != ct) = false := by simp [hp]
    have HO4 := hid (HO3.out.trans (by rw [decide_eq_true hp,Bool.true_and]))
    clear hp
    go_wp2_with fail
    go_region_held3 (fun w' => Kept w4 w') (first | exact kk | exact Kept.start w4) (first
     | (go_at_call 37; (with_reducible refine (HCT.out w4.drew ((HR.out.below HB4.out).below (Kept.start w4).2.2)).mono ?_); rintro e w5 ⟨rfl,hb5⟩; have kk := (Kept.start w4).call hb5; clear hb5))
    skip
    skip
    skip
    have k5 := kk
    clear kk
    clear bi0 bi1 bi2 bi3 bi4 bi5 bi6 bi7 bi8 bi9 bi10 bi11 bi12 bi13 bi14 bc0 bc1 bc2 bc3 bc4 bc5 bc6 bc7 bc8 bc9 bc10 bc11 bl1 bl2
    have HB5 := hid (HB4.out.trans (k5.2.2.mono HB4.out.size))
    have HK5 := hid (HK4.out.kept k5.2.2)
    have HK35 := hid (HK34.out.kept k5.2.2)
    clear k5
    have di0 : w5.cell? ⟨w.heap.size,0,none⟩ = some (.slice (some ⟨b0,o0,none⟩) n cap) := HK5.out.cell 0
    have di1 : w5.cell? ⟨w.heap.size,1,none⟩ = some (.int .i64 sh) := HK5.out.cell 1
    have di2 : w5.cell? ⟨w.heap.size,2,none⟩ = some (.int .i64 ra) := HK5.out.cell 2
    have di3 : w5.cell? ⟨w.heap.size,3,none⟩ = some (.int .i64 mo) := HK5.out.cell 3
    have di4 : w5.cell? ⟨w.heap.size,4,none⟩ = some (.int .i64 wk) := HK5.out.cell 4
    have di5 : w5.cell? ⟨w.heap.size,5,none⟩ = some (.int .i64 ba) := HK5.out.cell 5
    have di6 : w5.cell? ⟨w.heap.size,6,none⟩ = some (.int .i64 mi) := HK5.out.cell 6
    have di7 : w5.cell? ⟨w.heap.size,7,none⟩ = some (.int .i64 st) := HK5.out.cell 7
    have di8 : w5.cell? ⟨w.heap.size,8,none⟩ = some (.int .i64 bu) := HK5.out.cell 8
    have di9 : w5.cell? ⟨w.heap.size,9,none⟩ = some (.int .i64 ch) := HK5.out.cell 9
    have di10 : w5.cell? ⟨w.heap.size,10,none⟩ = some (.int .i64 wi) := HK5.out.cell 10
    have di11 : w5.cell? ⟨w.heap.size,11,none⟩ = some (.int .i64 ca) := HK5.out.cell 11
    have di12 : w5.cell? ⟨w.heap.size,12,none⟩ = some (.slice S m cS) := HK5.out.cell 12
    have di13 : w5.cell? ⟨w.heap.size,13,none⟩ = some (.slice AP P cP) := HK5.out.cell 13
    have di14 : w5.cell? ⟨w.heap.size,14,none⟩ = some (.slice AD D cD) := HK5.out.cell 14
    have dc0 : w5.cell? ⟨w.heap.size + 1,0,none⟩ = some (.slice (some ⟨b0,o0,none⟩) n cap) := HK35.out.cell 0
    have dc1 : w5.cell? ⟨w.heap.size + 1,1,none⟩ = some (.int .i64 sh) := HK35.out.cell 1
    have dc2 : w5.cell? ⟨w.heap.size + 1,2,none⟩ = some (.int .i64 ra) := HK35.out.cell 2
    have dc3 : w5.cell? ⟨w.heap.size + 1,3,none⟩ = some (.int .i64 mo) := HK35.out.cell 3
    have dc4 : w5.cell? ⟨w.heap.size + 1,4,none⟩ = some (.int .i64 wk) := HK35.out.cell 4
    have dc5 : w5.cell? ⟨w.heap.size + 1,5,none⟩ = some (.int .i64 ba) := HK35.out.cell 5
    have dc6 : w5.cell? ⟨w.heap.size + 1,6,none⟩ = some (.int .i64 mi) := HK35.out.cell 6
    have dc7 : w5.cell? ⟨w.heap.size + 1,7,none⟩ = some (.int .i64 st) := HK35.out.cell 7
    have dc8 : w5.cell? ⟨w.heap.size + 1,8,none⟩ = some (.int .i64 bu) := HK35.out.cell 8
    have dc9 : w5.cell? ⟨w.heap.size + 1,9,none⟩ = some (.int .i64 ch) := HK35.out.cell 9
    have dc10 : w5.cell? ⟨w.heap.size + 1,10,none⟩ = some (.int .i64 wi) := HK35.out.cell 10
    have dc11 : w5.cell? ⟨w.heap.size + 1,11,none⟩ = some (.int .i64 ca) := HK35.out.cell 11
    have dl1 := HK5.out.lt
    have dl2 := HK35.out.lt
    have HNB := hid (HNN.out HBA.out)
    have hnb := HNB.out
    by_cases hd : nd <= D
    case neg =>
     have f4 : decide ((D : Int) < (nd : Int)) = true := decide_eq_true (by omega)
     have f5 : decide (D < nd) = true := decide_eq_true (by omega)
     have HOF := hid (HO4.out.trans (decide_eq_false hd))
     clear hd
     go_wp2_with fail
     go_region_held3 (fun w' => Kept w5 w') (first | exact kk | exact Kept.start w5) (first
      | (go_at_call 38; (with_reducible refine (HND.out w5.drew ((HR.out.below HB5.out).below (Kept.start w5).2.2) HBA.out).mono ?_); rintro e w6 ⟨rfl,hb6⟩; have kk := (Kept.start w5).call hb6; clear hb6))
     have k6 := kk
     clear kk
     clear di0 di1 di2 di3 di4 di5 di6 di7 di8 di9 di10 di11 di12 di13 di14 dc0 dc1 dc2 dc3 dc4 dc5 dc6 dc7 dc8 dc9 dc10 dc11 dl1 dl2
     have HB6 := hid (HB5.out.trans (k6.2.2.mono HB5.out.size))
     clear k6
     go_wp2_with fail
     go_ret
     exact ⟨8,rfl,by rw [HOF.out]; simp,HB6.out⟩
    case pos =>
     have f4 : decide ((D : Int) < (nd : Int)) = false := decide_eq_false (by omega)
     have f5 : decide (D < nd) = false := decide_eq_false (by omega)
     have HOF := hid (HO4.out.trans (decide_eq_true hd))
     clear hd
     go_wp2_with fail
     go_region_held3 (fun w' => Kept w5 w') (first | exact kk | exact Kept.start w5) (first
      | (go_at_call 38; (with_reducible refine (HND.out w5.drew ((HR.out.below HB5.out).below (Kept.start w5).2.2) HBA.out).mono ?_); rintro e w6 ⟨rfl,hb6⟩; have kk := (Kept.start w5).call hb6; clear hb6))
     have k6 := kk
     clear kk
     clear di0 di1 di2 di3 di4 di5 di6 di7 di8 di9 di10 di11 di12 di13 di14 dc0 dc1 dc2 dc3 dc4 dc5 dc6 dc7 dc8 dc9 dc10 dc11 dl1 dl2
     have HB6 := hid (HB5.out.trans (k6.2.2.mono HB5.out.size))
     clear k6
     go_wp2_with fail
     go_ret
     exact ⟨0,rfl,by rw [HOF.out]; simp,HB6.out⟩
end
end Go.Proofs.YtkmaeipoaoikpaaGreat
