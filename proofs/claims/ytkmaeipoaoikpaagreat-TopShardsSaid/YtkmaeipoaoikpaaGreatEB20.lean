/- Data, Data2, Data3, Link. -/
import Derived.Test.YtkmaeipoaoikpaaGreatEB10
import Derived.Test.YtkmaeipoaoikpaaGreatEB19
namespace Go.Proofs.YtkmaeipoaoikpaaGreat
set_option linter.all false
set_option maxRecDepth 100000
set_option maxHeartbeats 2000000
open Lib (hid)
section
open Go.RowKit
theorem slEx : Sl Tryz.prog 25 162 (.agg #[.slice none 0 0,.slice none 0 0]) 2 48 := ⟨Tryz.underlying25,by kernel_rfl,rfl,by omega⟩
def RdS (w : World) (N M : Nat) (l : List StS) (f : Nat -> List Int × List Int) : Prop := ∀ i s,l[i]? = some s -> Rd w 1 s.1 N (iv (f (i + 1)).1) /\ Rd w 1 s.2.2.1 M (iv (f (i + 1)).2)
theorem RdS.below {w w' : World} {N M : Nat} {l : List StS} {f : Nat -> List Int × List Int} (h : RdS w N M l f) (hb : Below w.heap.size w w') : RdS w' N M l f := fun i s hs => ⟨(h i s hs).1.below hb,(h i s hs).2.below hb⟩
theorem OwnS.rd {w : World} {base N M : Nat} {l : List StS} {f : Nat -> List Int × List Int} (h : OwnS w base N M l f) : RdS w N M l f := fun i s hs => ⟨Rd.of_own (h i s hs).1,Rd.of_own (h i s hs).2⟩
theorem OwnS.mid {w w' : World} {base N M lo : Nat} {l : List StS} {f : Nat -> List Int × List Int} (h : OwnS w base N M l f) (hm : Mid lo w.heap.size w w') (hl : lo <= base) : OwnS w' base N M l f := fun i s hs => ⟨own_mid (h i s hs).1 hm hl,own_mid (h i s hs).2 hm hl⟩
theorem copied_any (A B : Option Addr) (N M c d : Nat) (Ps Ms : List Int) (w : World) (hPl : Ps.length = N) (hMl : Ms.length = M) (hP : Rd w 1 A N (iv Ps)) (hM : Rd w 1 B M (iv Ms)) (hN : N <= 1000000) (hM' : M <= 1000000) :
  Calls Tryz.prog 106 #[.agg #[.slice A N c,.slice B M d]] w (StRet w N M Ps Ms) := by
 have HPL := hid hPl
 have HML := hid hMl
 have HP := hid hP
 have HM := hid hM
 clear hPl hMl hP hM
 go_enter Tryz.func106,Tryz.ntmps106
 go_wp2_with fail
 obtain ⟨w0,hw0⟩ : ∃ w0,(w.alloc (.cells #[.slice A N c,.slice B M d] 162)).alloc (.cells #[.slice none 0 0,.slice none 0 0] 162) = w0 := ⟨_,rfl⟩
 have k0 : Below w.heap.size w w0 := by rw [<- hw0]; exact ((Below.refl _ _).alloc (Nat.le_refl _) _).alloc (by simp) _
 have hA0 : Blk w0 w.heap.size 162 #[.slice A N c,.slice B M d] := by rw [<- hw0]; exact (Blk.new w _ _).alloc _
 have hR0 : Blk w0 (w.heap.size + 1) 162 #[.slice none 0 0,.slice none 0 0] := by rw [<- hw0]; exact Blk.new' _ _ (by simp)
 rw [hw0]
 clear hw0
 have s0 : (w0.drew.cell? ⟨w.heap.size,0,none⟩ = some (.slice A N c) /\ w0.drew.cell? ⟨w.heap.size,1,none⟩ = some (.slice B M d)) /\ Below w.heap.size w w0.drew := ⟨⟨hA0.cell 0,hA0.cell 1⟩,k0.drew⟩
 have HA0 := hid hA0
 have HR0 := hid hR0
 have HC1 := hid (fun W (hb : Below w.heap.size w W) => clone64_any A N c Ps W HPL.out (HP.out.below hb) (by omega))
 have HC2 := hid (fun W (hb : Below w.heap.size w W) => clone64_any B M d Ms W HML.out (HM.out.below hb) (by omega))
 clear hA0 hR0 k0
 go_region_held3 (fun w' => (w'.cell? ⟨w.heap.size,0,none⟩ = some (.slice A N c) /\ w'.cell? ⟨w.heap.size,1,none⟩ = some (.slice B M d)) /\ Below w.heap.size w w') (first | exact s0 | exact s1 | exact s2 | exact s3) (first
  | (go_at_call 181; (with_reducible refine (HC1.out w0.drew s0.2).mono ?_); rintro e w1 ⟨A1,c1,rfl,hown1,hb1⟩; have HA1 := hid (HA0.out.drew.kept hb1); have HR1 := hid (HR0.out.drew.kept hb1); have s1 : (w1.cell? ⟨w.heap.size,0,none⟩ = some (.slice A N c) /\ w1.cell? ⟨w.heap.size,1,none⟩ = some (.slice B M d)) /\ Below w.heap.size w w1 := ⟨⟨HA1.out.cell 0,HA1.out.cell 1⟩,((Kept.of s0.2).call hb1).2.2⟩; have HO1 := hid hown1; clear hown1 hb1)
  | (go_at_call 181; (with_reducible refine (HC2.out w1 s1.2).mono ?_); rintro e w2 ⟨A2,c2,rfl,hown2,hb2⟩; have HA2 := hid (HA1.out.kept hb2); have HR2 := hid (HR1.out.kept hb2); have s2 : (w2.cell? ⟨w.heap.size,0,none⟩ = some (.slice A N c) /\ w2.cell? ⟨w.heap.size,1,none⟩ = some (.slice B M d)) /\ Below w.heap.size w w2 := ⟨⟨HA2.out.cell 0,HA2.out.cell 1⟩,((Kept.of s1.2).call hb2).2.2⟩; have HO2 := hid hown2; have HO12 := hid (own_below HO1.out hb2); have d0 : w2.cell? ⟨w.heap.size + 1,0,none⟩ = some (.slice none 0 0) := HR2.out.cell 0; have d1 : w2.cell? ⟨w.heap.size + 1,1,none⟩ = some (.slice none 0 0) := HR2.out.cell 1; have f0 := HR2.out.frozen 0; have f1 := HR2.out.frozen 1; have s3 : (((w2.setCell ⟨w.heap.size + 1,0,none⟩ (.slice A1 N c1)).setCell ⟨w.heap.size + 1,1,none⟩ (.slice A2 M c2)).cell? ⟨w.heap.size,0,none⟩ = some (.slice A N c) /\ ((w2.setCell ⟨w.heap.size + 1,0,none⟩ (.slice A1 N c1)).setCell ⟨w.heap.size + 1,1,none⟩ (.slice A2 M c2)).cell? ⟨w.heap.size,1,none⟩ = some (.slice B M d)) /\ Below w.heap.size w ((w2.setCell ⟨w.heap.size + 1,0,none⟩ (.slice A1 N c1)).setCell ⟨w.heap.size + 1,1,none⟩ (.slice A2 M c2)) := ⟨⟨(HA2.out.grown (store2' HR2.out _ _).1 (by simp)).cell 0,(HA2.out.grown (store2' HR2.out _ _).1 (by simp)).cell 1⟩,below_gr s2.2 s2.2.size (store2' HR2.out _ _).1 (by omega)⟩; clear hown2 hb2))
 go_wp2
 have hst := store2' HR2.out (.slice A1 N c1) (.slice A2 M c2)
 refine bodyPost_ret (v := .agg #[.slice A1 N c1,.slice A2 M c2]) (by simp [results,Tryz.results106,go_sem,d0,d1]) rfl ⟨A1,c1,A2,c2,rfl,?_,?_,fun g h hg hh => ?_,s3.2⟩
 ·exact own_base (HO12.out.kept hst.1 (.inr (own_blk_ne HO12.out HR2.out (by decide)))) s0.2.size
 ·exact own_base (HO2.out.kept hst.1 (.inr (own_blk_ne HO2.out HR2.out (by decide)))) s1.2.size
 ·have h1 := (HO1.out.lt g hg).2
  have h2 := (HO2.out.lt h hh).1
  omega
def ExRet (w : World) (N M : Nat) (Ps Ms : List Int) (en : Ending) (w' : World) : Prop :=
 ∃ AP cP AM cM,en = .returned (.tuple #[.agg #[.slice AP N cP,.slice AM M cM],.bool true]) /\ w'.ownsRow w.heap.size 2 1 (.slice AP N cP) N (iv Ps) /\ w'.ownsRow w.heap.size 2 1 (.slice AM M cM) M (iv Ms) /\ Below w.heap.size w w'
theorem clone1_any (A B : Option Addr) (N M c d : Nat) (Ps Ms : List Int) (w : World) (hPl : Ps.length = N) (hMl : Ms.length = M) (hP : Rd w 1 A N (iv Ps)) (hM : Rd w 1 B M (iv Ms)) (hN : N <= 1000000) (hM' : M <= 1000000) :
  Calls Tryz.prog 105 #[.agg #[.slice A N c,.slice B M d]] w (ExRet w N M Ps Ms) := by
 have HC := hid (fun W (hb : Below w.heap.size w W) => copied_any A B N M c d Ps Ms W hPl hMl (hP.below hb) (hM.below hb) hN hM')
 clear hPl hMl hP hM
 obtain ⟨w0,hw0⟩ : ∃ w0,(w.alloc (.cells #[.slice A N c,.slice B M d] 162)).alloc (.cells #[.slice none 0 0,.slice none 0 0] 162) = w0 := ⟨_,rfl⟩
 have HW := hid hw0
 have HK0 : Hid (Below w.heap.size w w0) := hid (by rw [<- hw0]; exact ((Below.refl _ _).alloc (Nat.le_refl _) _).alloc (by simp) _)
 have HB0 : Hid (Blk w0 w.heap.size 162 #[.slice A N c,.slice B M d]) := hid (by rw [<- hw0]; exact (Blk.new w _ _).alloc _)
 have HB1 : Hid (Blk w0 (w.heap.size + 1) 162 #[.slice none 0 0,.slice none 0 0]) := hid (by rw [<- hw0]; exact Blk.new' _ _ (by simp))
 clear hw0
 go_enter Tryz.func105,Tryz.ntmps105
 go_wp2_with fail
 rw [HW.out]
 ((with_reducible refine (HC.out w0 HK0.out).mono ?_); rintro e w1 ⟨AP,cP,AM,cM,rfl,h1,h2,_,hb⟩)
 have HO1 := hid h1
 have HO2 := hid h2
 have HBb := hid hb
 have k1 := HB1.out.kept hb
 have d0 := k1.cell 0
 have d1 := k1.cell 1
 have f0 := k1.frozen 0
 have f1 := k1.frozen 1
 have l1 := k1.lt
 have HK1 := hid k1
 clear h1 h2 hb k1
 go_wp2_with fail
 have hst := store2' HK1.out (.slice AP N cP) (.slice AM M cM)
 have hz := HK0.out.size
 have hz1 := HBb.out.size
 refine bodyPost_ret (v := .tuple #[.agg #[.slice AP N cP,.slice AM M cM],.bool true]) (by simp [results,Tryz.results105,go_sem,d0,d1,l1]) rfl ⟨AP,cP,AM,cM,rfl,?_,?_,below_gr (HK0.out.trans (HBb.out.mono hz)) (by omega) hst.1 (by omega)⟩
 ·exact own_base (HO1.out.kept hst.1 (.inr (own_blk_ne HO1.out HK1.out (by decide)))) hz
 ·exact own_base (HO2.out.kept hst.1 (.inr (own_blk_ne HO2.out HK1.out (by decide)))) hz
def ExsRet (w : World) (N M m : Nat) (f : Nat -> List Int × List Int) (en : Ending) (w' : World) : Prop :=
 ∃ S cS l,l.length = m /\ en = .returned (.tuple #[.slice S m cS,.bool true]) /\ w'.ownsRow w.heap.size 162 2 (.slice S m cS) m (stv N M l) /\ OwnS w' w.heap.size N M l f /\ Below w.heap.size w w'
theorem stv_rd {w : World} {S : Option Addr} {N M m k : Nat} {es : List StS} {s : StS} (h : Rd w 2 S m (stv N M es)) (hs : es[k]? = some s) (hk : k < m) : ∃ b o,S = some ⟨b,o,none⟩ /\ b < w.heap.size /\ w.cell? ⟨b,o + k * 2,none⟩ = some (.slice s.1 N s.2.1) /\ w.cell? ⟨b,o + k * 2 + 1,none⟩ = some (.slice s.2.2.1 M s.2.2.2) := by
 obtain ⟨b,o,e,hlt,hc⟩ := h.2 (by omega)
 obtain ⟨g1,g2⟩ := stv_get N M es k s hs
 exact ⟨b,o,e,hlt,hc _ _ g1,by rw [Nat.add_assoc]; exact hc _ _ g2⟩
theorem mappedE_any (S : Option Addr) (m cS N M : Nat) (es : List StS) (f : Nat -> List Int × List Int) (w : World) (hl : es.length = m) (hm : m <= 1000000) (h : Rd w 2 S m (stv N M es)) (hr : RdS w N M es f) (hN : N <= 1000000) (hM : M <= 1000000) (hf : ∀ i,i < m -> (f (i + 1)).1.length = N /\ (f (i + 1)).2.length = M) :
  Calls Tryz.prog 104 #[.slice S m cS,.func (.func 105) #[] #[]] w (ExsRet w N M m f) := by
 have HL := hid hl
 have HR := hid h
 have HS := hid hr
 have HF := hid hf
 clear hl h hr hf
 go_enter Tryz.func104,Tryz.ntmps104
 go_wp2_with fail
 go_loopw [6,13] (fun v i wr => ∃ (k : Nat) (A : Option Addr) (c : Nat) (l : List StS),k <= m /\ l.length = k /\ v = .slice A k c /\ i = .int .i64 k /\ wr.ownsRow w.heap.size 162 2 (.slice A k c) k (stv N M l) /\ OwnS wr w.heap.size N M l f /\ Below w.heap.size w wr) (fun _ i _ => m - (intOf i).toNat)
 case atStart => exact ⟨0,none,0,[],by omega,rfl,rfl,rfl,World.ownsRow_nil _ _ _ _,fun i s h => by simp at h,Below.refl _ _⟩
 case round =>
  obtain ⟨k,A,c,l,hk,hlk,rfl,rfl,hown,hO,hb⟩ := hrel
  by_cases hlt : k < m
  ·obtain ⟨⟨SP,cP,SM,cM⟩,hs⟩ : ∃ s,es[k]? = some s := ⟨_,List.getElem?_eq_getElem (by rw [HL.out]; exact hlt)⟩
   obtain ⟨b,o,rfl,lb,c0,c1⟩ := stv_rd (HR.out.below hb) hs hlt
   obtain ⟨r1,r2⟩ := (HS.out.below hb) k _ hs
   have HC := hid (fun W (hB : Below wr.heap.size wr W) => clone1_any SP SM N M cP cM (f (k + 1)).1 (f (k + 1)).2 W (HF.out k hlt).1 (HF.out k hlt).2 (r1.below hB) (r2.below hB) hN hM)
   have HOw := hid hown
   have HOs := hid hO
   have HB := hid hb
   have HLK := hid hlk
   clear hown hO hb hlk r1 r2 hs
   have HA : Hid (Below wr.heap.size wr (wr.alloc (.cells #[.slice SP N cP,.slice SM M cM] 162))) := hid ((Below.refl _ _).alloc (Nat.le_refl _) _)
   go_wp2_with fail
   ((with_reducible refine (HC.out _ HA.out).mono ?_); rintro e w1 ⟨AP,c2,AM,c3,rfl,ho1,ho2,hb1⟩)
   have hb2 : Below wr.heap.size wr w1 := HA.out.trans (hb1.mono HA.out.size)
   have HK2 := hid hb2
   have HO1 := hid (own_base ho1 HA.out.size)
   have HO2 := hid (own_base ho2 HA.out.size)
   clear ho1 ho2 hb1
   obtain ⟨W2,hw2⟩ : ∃ W2 : World,W2 = w1.alloc (.cells #[.slice AP N c2,.slice AM M c3] 162) := ⟨_,rfl⟩
   have hb3 : Below w1.heap.size w1 W2 := by rw [hw2]; exact (Below.refl _ _).alloc (Nat.le_refl _) _
   have hbk : Blk W2 w1.heap.size 162 #[.slice AP N c2,.slice AM M c3] := by rw [hw2]; exact Blk.new _ _ _
   have how3 := own_below (own_below HOw.out hb2) hb3
   have hsz : w.heap.size <= W2.heap.size := Nat.le_trans HB.out.size (Nat.le_trans hb2.size hb3.size)
   rw [hw2] at hb3 hbk how3 hsz
   have HB3 := hid hb3
   have HBK := hid hbk
   have HOw3 := hid how3
   have c4 := hbk.cell 0
   have c5 := hbk.cell 1
   have l4 := hbk.lt
   clear hb2 hb3 hw2 hbk how3
   go_wp2_with (at_builtin; go_must (refine wpList_pushL slEx rfl _ _ rfl w.heap.size _ k (stv N M l) rfl HOw3.out #[.slice AP N c2,.slice AM M c3] _ rfl (by simp) rfl (two_slices _ _ _ _ _ _) (by unfold maxLen; omega) (by omega) hsz ?_); go_must (intro A' c' wv hown' hb' hgr' hat'; (have HOv := hid hown'); (have HBv := hid hb'); (have HGr := hid hgr'); clear hown' hb' hgr' hat'))
   go_roundw
   case rel =>
    refine ⟨k + 1,A',c',l ++ [(AP,c2,AM,c3)],by omega,by simp [HLK.out],rfl,by go_num,by rw [stv_append]; exact HOv.out,?_,(HB.out.trans ((HK2.out.trans (HB3.out.mono HK2.out.size)).mono HB.out.size)).trans HBv.out⟩
    refine OwnS.row (((HOs.out.below HK2.out).snoc (by rw [HLK.out]; exact own_base HO1.out HB.out.size) (by rw [HLK.out]; exact own_base HO2.out HB.out.size)).below HB3.out) HOw3.out (by decide) HGr.out
   case measure => simp [intOf]; omega
  ·obtain rfl : k = m := by omega
   have HOw := hid hown
   have HOs := hid hO
   have HB := hid hb
   clear hown hO hb
   go_wp2
   go_ret2
   exact ⟨A,c,l,hlk,rfl,HOw.out,HOs.out,HB.out⟩
theorem dataClone_any (S : Option Addr) (m cS N M : Nat) (es : List StS) (f : Nat -> List Int × List Int) (w : World) (hl : es.length = m) (hm : m <= 1000000) (h : Rd w 2 S m (stv N M es)) (hr : RdS w N M es f) (hN : N <= 1000000) (hM : M <= 1000000) (hf : ∀ i,i < m -> (f (i + 1)).1.length = N /\ (f (i + 1)).2.length = M) :
  Calls Tryz.prog 40 #[.slice S m cS] w fun e w' => ∃ S' c' l,l.length = m /\ e = .returned (.slice S' m c') /\ w'.ownsRow w.heap.size 162 2 (.slice S' m c') m (stv N M l) /\ OwnS w' w.heap.size N M l f /\ Below w.heap.size w w' := by
 have HC := hid (mappedE_any S m cS N M es f w hl hm h hr hN hM hf)
 clear hl h hr hf
 go_enter Tryz.func40,Tryz.ntmps40
 go_wp2_with fail
 ((with_reducible refine HC.out.mono ?_); rintro e w1 ⟨S',c',l,h1,rfl,h2,h3,h4⟩)
 have H1 := hid h1
 have H2 := hid h2
 have H3 := hid h3
 have H4 := hid h4
 clear h1 h2 h3 h4
 go_wp2
 go_ret
 exact ⟨S',c',l,H1.out,rfl,H2.out,H3.out,H4.out⟩
def pickF (f : Nat -> List Int × List Int) (L : List Int) : Nat -> List Int × List Int := fun j => f ((L.getD (j - 1) 0).toNat + 1)
theorem pick1_any (S : Option Addr) (m cS N M g : Nat) (x : Int) (es : List StS) (f : Nat -> List Int × List Int) (w : World) (hg : Blk w g 25 #[.slice S m cS]) (hx : 0 <= x /\ x < m) (hl : es.length = m) (hm : m <= 1000000) (h : Rd w 2 S m (stv N M es)) (hr : RdS w N M es f) (hN : N <= 1000000) (hM : M <= 1000000) (hf : ∀ i,i < m -> (f (i + 1)).1.length = N /\ (f (i + 1)).2.length = M) :
  Calls Tryz.prog 217 #[.int .i64 x,.pointer (some ⟨g,0,none⟩)] w (ExRet w N M (f (x.toNat + 1)).1 (f (x.toNat + 1)).2) := by
 obtain ⟨k,rfl⟩ : ∃ k : Nat,x = k := ⟨x.toNat,by omega⟩
 have hk : k < m := by omega
 rw [Int.toNat_natCast]
 obtain ⟨⟨SP,cP,SM,cM⟩,hs⟩ : ∃ s,es[k]? = some s := ⟨_,List.getElem?_eq_getElem (by rw [hl]; exact hk)⟩
 obtain ⟨b,o,rfl,lb,c0,c1⟩ := stv_rd h hs hk
 obtain ⟨r1,r2⟩ := hr k _ hs
 have HC := hid (fun W (hB : Below w.heap.size w W) => copied_any SP SM N M cP cM (f (k + 1)).1 (f (k + 1)).2 W (hf k hk).1 (hf k hk).2 (r1.below hB) (r2.below hB) hN hM)
 have g0 := hg.cell 0
 have lg := hg.lt
 have e1 : decide ((k : Int) < 0) = false := decide_eq_false (by omega)
 have e2 : decide ((m : Int) <= (k : Int)) = false := decide_eq_false (by omega)
 have i1 : (0 : Int) <= (k : Int) := by omega
 have i2 : (k : Int) < (m : Int) := by omega
 have HA : Hid (Below w.heap.size w (w.alloc (.cells #[.slice none 0 0,.slice none 0 0] 162))) := hid ((Below.refl _ _).alloc (Nat.le_refl _) _)
 have HB1 : Hid (Blk (w.alloc (.cells #[.slice none 0 0,.slice none 0 0] 162)) w.heap.size 162 #[.slice none 0 0,.slice none 0 0]) := hid (Blk.new w _ _)
 clear h hr hs hl hf r1 r2 hg hx
 go_enter Tryz.func217,Tryz.ntmps217
 go_wp2_with fail
 ((with_reducible refine (HC.out _ HA.out).mono ?_); rintro e w1 ⟨AP,c2,AM,c3,rfl,h1,h2,_,hb⟩)
 have HO1 := hid h1
 have HO2 := hid h2
 have HBb := hid hb
 have k1 := HB1.out.kept hb
 have d0 := k1.cell 0
 have d1 := k1.cell 1
 have f0 := k1.frozen 0
 have f1 := k1.frozen 1
 have l1 := k1.lt
 have HK1 := hid k1
 clear h1 h2 hb k1
 go_wp2_with fail
 have hst := store2' HK1.out (.slice AP N c2) (.slice AM M c3)
 have hz := HA.out.size
 have hz1 := HBb.out.size
 refine bodyPost_ret (v := .tuple #[.agg #[.slice AP N c2,.slice AM M c3],.bool true]) (by simp [results,Tryz.results217,go_sem,d0,d1,l1]) rfl ⟨AP,c2,AM,c3,rfl,?_,?_,below_gr (HA.out.trans (HBb.out.mono hz)) (by omega) hst.1 (by omega)⟩
 ·exact own_base (HO1.out.kept hst.1 (.inr (own_blk_ne HO1.out HK1.out (by decide)))) hz
 ·exact own_base (HO2.out.kept hst.1 (.inr (own_blk_ne HO2.out HK1.out (by decide)))) hz
theorem mappedI_any (S A0 : Option Addr) (m cS N M g n cap : Nat) (L : List Int) (es : List StS) (f : Nat -> List Int × List Int) (w : World) (hg : Blk w g 25 #[.slice S m cS]) (hL : L.length = n) (hn : n <= 1000000) (hLr : Rd w 1 A0 n (iv L)) (hin : ∀ x ∈ L,0 <= x /\ x < m)
  (hl : es.length = m) (hm : m <= 1000000) (h : Rd w 2 S m (stv N M es)) (hr : RdS w N M es f) (hN : N <= 1000000) (hM : M <= 1000000) (hf : ∀ i,i < m -> (f (i + 1)).1.length = N /\ (f (i + 1)).2.length = M) :
  Calls Tryz.prog 216 #[.slice A0 n cap,.func (.func 217) #[] #[.pointer (some ⟨g,0,none⟩)]] w (ExsRet w N M n (pickF f L)) := by
 have HL := hid hL
 have HR := hid hLr
 have HIN := hid hin
 have HP := hid (fun W (hB : Below w.heap.size w W) x (hx : 0 <= x /\ x < (m : Int)) => pick1_any S m cS N M g x es f W (hg.kept hB) hx hl hm (h.below hB) (hr.below hB) hN hM hf)
 clear hl h hr hf hL hLr hin hg
 go_enter Tryz.func216,Tryz.ntmps216
 go_wp2_with fail
 go_loopw [6,13] (fun v i wr => ∃ (k : Nat) (A : Option Addr) (c : Nat) (l : List StS),k <= n /\ l.length = k /\ v = .slice A k c /\ i = .int .i64 k /\ wr.ownsRow w.heap.size 162 2 (.slice A k c) k (stv N M l) /\ OwnS wr w.heap.size N M l (pickF f L) /\ Below w.heap.size w wr) (fun _ i _ => n - (intOf i).toNat)
 case atStart => exact ⟨0,none,0,[],by omega,rfl,rfl,rfl,World.ownsRow_nil _ _ _ _,fun i s h => by simp at h,Below.refl _ _⟩
 case round =>
  obtain ⟨k,A,c,l,hk,hlk,rfl,rfl,hown,hO,hb⟩ := hrel
  by_cases hlt : k < n
  ·obtain ⟨b,o,x,rfl,hbl,hx,c1⟩ := iv_at HL.out (HR.out.below hb) hlt
   have hxi := HIN.out x (List.mem_of_getElem? hx)
   have hpf : f (x.toNat + 1) = pickF f L (k + 1) := by simp [pickF,List.getD,hx]
   have HC := HP.out wr hb x hxi
   rw [hpf] at HC
   have HC := hid HC
   have HOw := hid hown
   have HOs := hid hO
   have HB := hid hb
   have HLK := hid hlk
   clear hown hO hb hlk hpf hx hxi
   go_wp2_with fail
   ((with_reducible refine HC.out.mono ?_); rintro e w1 ⟨AP,c2,AM,c3,rfl,ho1,ho2,hb2⟩)
   have HK2 := hid hb2
   have HO1 := hid ho1
   have HO2 := hid ho2
   clear ho1 ho2
   obtain ⟨W2,hw2⟩ : ∃ W2 : World,W2 = w1.alloc (.cells #[.slice AP N c2,.slice AM M c3] 162) := ⟨_,rfl⟩
   have hb3 : Below w1.heap.size w1 W2 := by rw [hw2]; exact (Below.refl _ _).alloc (Nat.le_refl _) _
   have hbk : Blk W2 w1.heap.size 162 #[.slice AP N c2,.slice AM M c3] := by rw [hw2]; exact Blk.new _ _ _
   have how3 := own_below (own_below HOw.out hb2) hb3
   have hsz : w.heap.size <= W2.heap.size := Nat.le_trans HB.out.size (Nat.le_trans hb2.size hb3.size)
   rw [hw2] at hb3 hbk how3 hsz
   have HB3 := hid hb3
   have HBK := hid hbk
   have HOw3 := hid how3
   have c4 := hbk.cell 0
   have c5 := hbk.cell 1
   have l4 := hbk.lt
   clear hb2 hb3 hw2 hbk how3
   go_wp2_with (at_builtin; go_must (refine wpList_pushL slEx rfl _ _ rfl w.heap.size _ k (stv N M l) rfl HOw3.out #[.slice AP N c2,.slice AM M c3] _ rfl (by simp) rfl (two_slices _ _ _ _ _ _) (by unfold maxLen; omega) (by omega) hsz ?_); go_must (intro A' c' wv hown' hb' hgr' hat'; (have HOv := hid hown'); (have HBv := hid hb'); (have HGr := hid hgr'); clear hown' hb' hgr' hat'))
   go_roundw
   case rel =>
    refine ⟨k + 1,A',c',l ++ [(AP,c2,AM,c3)],by omega,by simp [HLK.out],rfl,by go_num,by rw [stv_append]; exact HOv.out,?_,(HB.out.trans ((HK2.out.trans (HB3.out.mono HK2.out.size)).mono HB.out.size)).trans HBv.out⟩
    refine OwnS.row (((HOs.out.below HK2.out).snoc (by rw [HLK.out]; exact own_base HO1.out HB.out.size) (by rw [HLK.out]; exact own_base HO2.out HB.out.size)).below HB3.out) HOw3.out (by decide) HGr.out
   case measure => simp [intOf]; omega
  ·obtain rfl : k = n := by omega
   have HOw := hid hown
   have HOs := hid hO
   have HB := hid hb
   clear hown hO hb
   go_wp2
   go_ret2
   exact ⟨A,c,l,hlk,rfl,HOw.out,HOs.out,HB.out⟩
theorem dataPick_any (S A0 : Option Addr) (m cS N M n cap : Nat) (L : List Int) (es : List StS) (f : Nat -> List Int × List Int) (w : World) (hL : L.length = n) (hn : n <= 1000000) (hLr : Rd w 1 A0 n (iv L)) (hin : ∀ x ∈ L,0 <= x /\ x < m)
  (hl : es.length = m) (hm : m <= 1000000) (h : Rd w 2 S m (stv N M es)) (hr : RdS w N M es f) (hN : N <= 1000000) (hM : M <= 1000000) (hf : ∀ i,i < m -> (f (i + 1)).1.length = N /\ (f (i + 1)).2.length = M) :
  Calls Tryz.prog 166 #[.slice S m cS,.slice A0 n cap] w (ExsRet w N M n (pickF f L)) := by
 have HG : Hid (∀ W,w.alloc (.cells #[.slice S m cS] 25) = W -> Below w.heap.size w W /\ Blk W w.heap.size 25 #[.slice S m cS]) := hid (by
  rintro W rfl
  exact ⟨(Below.refl _ _).alloc (Nat.le_refl _) _,Blk.new _ _ _⟩)
 have HC := hid (fun W (hB : Below w.heap.size w W) (hg : Blk W w.heap.size 25 #[.slice S m cS]) => mappedI_any S A0 m cS N M w.heap.size n cap L es f W hg hL hn (hLr.below hB) hin hl hm (h.below hB) (hr.below hB) hN hM hf)
 clear hl h hr hf hL hLr hin
 go_enter Tryz.func166,Tryz.ntmps166
 go_wp2_with fail
 obtain ⟨hB,hK⟩ := HG.out _ rfl
 ((with_reducible refine (HC.out _ hB hK).mono ?_); rintro e w1 ⟨S',c',l,h1,rfl,h2,h3,h4⟩)
 have H1 := hid h1
 have H2 := hid (own_base h2 hB.size)
 have H3 := hid (h3.base hB.size)
 have H4 := hid (hB.trans (h4.mono hB.size))
 clear h1 h2 h3 h4 hB hK
 go_wp2
 go_ret2
 exact ⟨S',c',l,H1.out,rfl,H2.out,H3.out,H4.out⟩
abbrev lnkC (A : Option Addr) (n c cp s r : Nat) (pk : Int) : Array Value := #[.slice A n c,.int .i64 cp,.int .i64 s,.int .i64 r,.int .i64 pk]
abbrev TagN := Int × Int × Int × Int × Int
def tagV (t : TagN) : List Value := [.int .i64 t.1,.int .i64 t.2.1,.int .i64 t.2.2.1,.int .i64 t.2.2.2.1,.int .i64 t.2.2.2.2]
abbrev MsgS := TagN × (Option Addr × Nat × Nat)
def msgV (m : MsgS) : List Value := [.int .i64 m.1.1,.int .i64 m.1.2.1,.int .i64 m.1.2.2.1,.int .i64 m.1.2.2.2.1,.int .i64 m.1.2.2.2.2,.slice m.2.1 m.2.2.1 m.2.2.2]
def msV (l : List MsgS) : List Value := l.flatMap msgV
theorem msV_append (l k : List MsgS) : msV (l ++ k) = msV l ++ msV k := by simp [msV]
theorem msV_get (l : List MsgS) (k j : Nat) (m : MsgS) (hj : j < 6) (hk : l[k]? = some m) : (msV l)[k * 6 + j]? = (msgV m)[j]? := by
 induction l generalizing k with
 | nil => simp at hk
 | cons r l ih =>
  have hr : (msgV r).length = 6 := rfl
  cases k with
  | zero =>
   obtain rfl : r = m := by simpa using hk
   rw [msV,List.flatMap_cons,Nat.zero_mul,Nat.zero_add,List.getElem?_append_left (by rw [hr]; exact hj)]
  | succ k =>
   rw [msV,List.flatMap_cons,List.getElem?_append_right (by rw [hr]; omega),hr,show (k + 1) * 6 + j - 6 = k * 6 + j by omega]
   exact ih k (by simpa using hk)
theorem msgV_one (m : MsgS) : ∀ u ∈ (msgV m).toArray.toList,u.oneCell' = true := by
 intro u hu
 simp [msgV] at hu
 rcases hu with rfl | rfl | rfl | rfl | rfl | rfl <;> rfl
theorem slMsg : Sl Tryz.prog 240 259 (.agg #[.int .i64 0,.int .i64 0,.int .i64 0,.int .i64 0,.int .i64 0,.slice none 0 0]) 6 64 := ⟨Tryz.underlying240,by kernel_rfl,rfl,by omega⟩
end
section
open Go.RowKit
variable (A : Option Addr) (n c cp s r : Nat) (pk : Int) (b : Nat) (w : World)
theorem linkLen_any (h : Blk w b 243 (lnkC A n c cp s r pk)) (hr : r <= s) (hs : s <= 1000000000000) :
  Calls Tryz.prog 192 #[.pointer (some ⟨b,0,none⟩)] w fun e w' => e = .returned (.int .i64 ((s - r : Nat) : Int)) /\ ∃ m,w' = w.drewN m := by
 have c2 := h.cell 2
 have c3 := h.cell 3
 have l1 := h.lt
 clear h
 have hw : IntKind.i64.wrap ((s : Int) - (r : Int)) = ((s - r : Nat) : Int) := by rw [show (s : Int) - (r : Int) = ((s - r : Nat) : Int) by omega]; exact IntWalk.i64_in _ (by omega)
 go_enter Tryz.func192,Tryz.ntmps192
 go_wp2_with fail
 go_quiet (fail)
 go_wp2
 go_ret
 exact ⟨ret_int (by omega),_,rfl⟩
theorem linkPlace_any (x : Nat) (h : Blk w b 243 (lnkC A n c cp s r pk)) (hcp : 1 <= cp) (hcp2 : cp <= 1048576) (hx : x <= 1000000000000) :
  Calls Tryz.prog 193 #[.pointer (some ⟨b,0,none⟩),.int .i64 x] w fun e w' => e = .returned (.int .i64 ((x % cp : Nat) : Int)) /\ w = w' := by
 have c1 := h.cell 1
 have l1 := h.lt
 clear h
 go_enter Tryz.func193,Tryz.ntmps193
 go_wp2
 go_ret
 exact ⟨ret_int (by simp),rfl⟩
end
section
open Go.RowKit
theorem linkCopied_any (A : Option Addr) (n cap : Nat) (l : List Int) (w : World) (hl : l.length = n) (h : Rd w 1 A n (iv l)) (hn : n <= 10000000) :
  Calls Tryz.prog 194 #[.slice A n cap] w (OwnRet w 2 1 n (iv l)) := by
 have HC := hid (clone64_any A n cap l w hl h hn)
 clear hl h
 go_enter Tryz.func194,Tryz.ntmps194
 go_wp2_with fail
 ((with_reducible refine HC.out.mono ?_); rintro e w1 ⟨A1,c1,rfl,ho,hb⟩)
 have HO := hid ho
 have HB := hid hb
 clear ho hb
 go_wp2
 go_ret
 exact ⟨A1,c1,rfl,HO.out,HB.out⟩
theorem linkNew_any (cp : Nat) (w : World) (h1 : 1 <= cp) (h2 : cp <= 1048576) :
  Calls Tryz.prog 47 #[.int .i64 cp] w fun e w' => e = .returned (.pointer (some ⟨w.heap.size,0,none⟩)) /\ Blk w' w.heap.size 243 (lnkC none 0 0 cp 0 0 0) /\ Below w.heap.size w w' := by
 have HG : Hid (∀ W,w.alloc (.cells (lnkC none 0 0 cp 0 0 0) 243) = W -> Below w.heap.size w W /\ Blk W w.heap.size 243 (lnkC none 0 0 cp 0 0 0)) := hid (by
  rintro W rfl
  exact ⟨(Below.refl _ _).alloc (Nat.le_refl _) _,Blk.new _ _ _⟩)
 have e1 : decide ((cp : Int) < 1) = false := decide_eq_false (by omega)
 have e2 : decide ((1048576 : Int) < (cp : Int)) = false := decide_eq_false (by omega)
 go_enter Tryz.func47,Tryz.ntmps47
 go_wp2
 go_ret
 exact ⟨rfl,(HG.out _ rfl).2,(HG.out _ rfl).1⟩
end
end Go.Proofs.YtkmaeipoaoikpaaGreat
