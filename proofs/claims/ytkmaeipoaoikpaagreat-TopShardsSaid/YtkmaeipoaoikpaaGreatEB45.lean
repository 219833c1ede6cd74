/- World, Works, SmpRefBatch, SmpRefNew, Samp14, Shards. -/
import Derived.Test.YtkmaeipoaoikpaaGreatEB37
import Derived.Test.YtkmaeipoaoikpaaGreatEB44
namespace Go.Proofs.YtkmaeipoaoikpaaGreat
set_option linter.all false
set_option maxRecDepth 100000
set_option maxHeartbeats 8000000
open Lib (hid)
section
open Go.RowKit
def SNewRet (I : InC) (w : World) (e : Ending) (w' : World) : Prop := ∃ xb,e = .returned (.tuple #[.pointer (some ⟨xb,0,none⟩),.int .i64 0]) /\ WorldAt w.heap.size w' xb I (startL I I.c.wk.toNat) (startK I.c.wk.toNat) 0 /\ Below w.heap.size w w'
theorem schedNew_any (I : InC) (w : World) (hI : InAt w I) (hO : I.Ok) :
  Calls Tryz.prog 12 #[inV I.A I.n I.cap I.c I.S I.m I.cS I.AP I.P I.cP I.AD I.D I.cD] w (SNewRet I w) := by
 have HN := hid hO.nums
 have HO := hid hO
 have m60 := hO.m60
 have hK := hO.mc (x := 0) (by have := hO.nums.wk; omega)
 have hn16 : I.n <= 16 := hK.n16
 have hP60 := hO.P60
 have hD4 := hO.D4
 have HCI := hid (fun W (i : InAt W I) => confInput_any I.A I.n I.cap I.l I.c I.S I.m I.cS (exsOf I.N I.M I.es) I.AP I.P I.cP I.AD I.D I.cD W i.hl i.rl i.cap (by omega) (by rw [exsOf_length]; exact i.el) (by rw [exV_of]; exact i.re) (by omega) (by omega) (by omega))
 have HI := hid hI
 clear hI hO hK
 go_enter Tryz.func12,Tryz.ntmps12
 go_wp2_with fail
 obtain ⟨w1,hw1⟩ : ∃ w1,w.alloc (.cells (inC I.A I.n I.cap I.c I.S I.m I.cS I.AP I.P I.cP I.AD I.D I.cD) 29) = w1 := ⟨_,rfl⟩
 obtain ⟨gin,hgin⟩ : ∃ g,w.heap.size = g := ⟨_,rfl⟩
 have hb1 : Below w.heap.size w w1 := by rw [<- hw1]; exact (Below.refl _ _).alloc (Nat.le_refl _) _
 have hi1 : Blk w1 gin 29 (inC I.A I.n I.cap I.c I.S I.m I.cS I.AP I.P I.cP I.AD I.D I.cD) := by rw [<- hw1]; exact Blk.new' _ _ hgin
 have HW1 := hid hw1
 have HGI := hid hgin
 have HB1 := hid hb1
 have HI1 := hid hi1
 clear hw1 hgin hb1 hi1
 rw [HW1.out,HGI.out]
 ((with_reducible refine (HCI.out w1 (HI.out.below HB1.out)).mono ?_); rintro e w2 ⟨cd,rfl,hcd,hb2⟩)
 obtain rfl : cd = 0 := hcd.2 HO.out.ok
 have HB2 := hid (HB1.out.trans (hb2.mono HB1.out.size))
 have HI2 := hid (HI1.out.kept hb2)
 have c4 : w2.cell? ⟨gin,4,none⟩ = some (.int .i64 I.c.wk) := HI2.out.cell 4
 have cl := HI2.out.lt
 clear hcd hb2 HCI
 go_wp2_with fail
 obtain ⟨w3,hw3⟩ : ∃ w3,w2.alloc (.cells #[.slice none 0 0,.slice none 0 0,.int .i64 0] 125) = w3 := ⟨_,rfl⟩
 obtain ⟨xb,hxb⟩ : ∃ g,w2.heap.size = g := ⟨_,rfl⟩
 have hb3 : Below w2.heap.size w2 w3 := by rw [<- hw3]; exact (Below.refl _ _).alloc (Nat.le_refl _) _
 have hx3 : Blk w3 xb 125 (worldC none 0 0 none 0 0 0) := by rw [<- hw3]; exact Blk.new' _ _ hxb
 have HXW : Hid (w.heap.size <= xb) := hid (by rw [<- hxb]; exact HB2.out.size)
 have HGX : Hid (gin < w2.heap.size /\ xb = w2.heap.size) := hid ⟨HI2.out.lt,hxb.symm⟩
 rw [hw3,hxb]
 have HB3 := hid (HB2.out.trans (hb3.mono HB2.out.size))
 have HI3 := hid (HI2.out.kept hb3)
 have HX3 := hid hx3
 clear hw3 hxb hb3 hx3 c4 cl
 go_loopw [19] (fun v wr => ∃ (k : Nat) (own : Nat -> Nat) (mbs lbs : List Nat) (AW : Option Addr) (cW : Nat) (AL : Option Addr) (cL : Nat),(k : Int) <= I.c.wk /\ v = .int .i64 k /\ WorldIn own wr xb I mbs lbs (startL I k) (startK k) AW cW AL cL 0 /\ mbs.length = k /\ lbs.length = k /\ (∀ j,own j ≠ 0 -> w.heap.size <= j) /\ Blk wr gin 29 (inC I.A I.n I.cap I.c I.S I.m I.cS I.AP I.P I.cP I.AD I.D I.cD) /\ Below w.heap.size w wr) (fun v _ => I.c.wk.toNat - (intOf v).toNat)
 case atStart =>
  refine ⟨0,fun j => if j = xb then 1 else 0,[],[],none,0,none,0,by have := HN.out.wk; omega,rfl,⟨HX3.out,if_pos rfl,World.ownsRow_nil _ _ _ _,World.ownsRow_nil _ _ _ _,fun g hg => by simp [blkOf,Value.ownBlock] at hg,fun g hg => by simp [blkOf,Value.ownBlock] at hg,⟨rfl,rfl,fun i b s h => by simp at h,fun i b s h => by simp at h⟩⟩,rfl,rfl,fun j hj => ?_,HI3.out,HB3.out⟩
  by_cases e : j = xb
  ·rw [e]; exact HXW.out
  ·simp [e] at hj
 case round =>
  obtain ⟨k,own,mbs,lbs,AW,cW,AL,cL,hk,rfl,hW,hml,hll,hown,hg,hb⟩ := hrel
  have HG := hid hg
  have HWR := hid hW
  have HML := hid hml
  have HLL := hid hll
  have HOWN := hid hown
  have HBR := hid hb
  clear hg hW hml hll hown hb
  by_cases hlt : (k : Int) < I.c.wk
  ·have hk64 : k < 64 := by have := HN.out.wk; omega
   have c0 : wr.cell? ⟨gin,0,none⟩ = some (.slice I.A I.n I.cap) := HG.out.cell 0
   have c1 : wr.cell? ⟨gin,1,none⟩ = some (.int .i64 I.c.sh) := HG.out.cell 1
   have c2 : wr.cell? ⟨gin,2,none⟩ = some (.int .i64 I.c.ra) := HG.out.cell 2
   have c3 : wr.cell? ⟨gin,3,none⟩ = some (.int .i64 I.c.mo) := HG.out.cell 3
   have c4 : wr.cell? ⟨gin,4,none⟩ = some (.int .i64 I.c.wk) := HG.out.cell 4
   have c5 : wr.cell? ⟨gin,5,none⟩ = some (.int .i64 I.c.ba) := HG.out.cell 5
   have c6 : wr.cell? ⟨gin,6,none⟩ = some (.int .i64 I.c.mi) := HG.out.cell 6
   have c7 : wr.cell? ⟨gin,7,none⟩ = some (.int .i64 I.c.st) := HG.out.cell 7
   have c8 : wr.cell? ⟨gin,8,none⟩ = some (.int .i64 I.c.bu) := HG.out.cell 8
   have c9 : wr.cell? ⟨gin,9,none⟩ = some (.int .i64 I.c.ch) := HG.out.cell 9
   have c10 : wr.cell? ⟨gin,10,none⟩ = some (.int .i64 I.c.wi) := HG.out.cell 10
   have c11 : wr.cell? ⟨gin,11,none⟩ = some (.int .i64 I.c.ca) := HG.out.cell 11
   have c12 : wr.cell? ⟨gin,12,none⟩ = some (.slice I.S I.m I.cS) := HG.out.cell 12
   have c13 : wr.cell? ⟨gin,13,none⟩ = some (.slice I.AP I.P I.cP) := HG.out.cell 13
   have c14 : wr.cell? ⟨gin,14,none⟩ = some (.slice I.AD I.D I.cD) := HG.out.cell 14
   have cl := HG.out.lt
   go_wp2_with fail
   ((with_reducible refine (machNew_any I k wr (HI.out.below HBR.out) HO.out hlt).mono ?_); rintro e w4 ⟨mb,rfl,hm,hb4⟩)
   have hW4 := HWR.out.below (own' := lab own wr.heap.size (2 * k + 2)) hb4 (lab_old _ _ _)
   have HW4 := hid hW4
   have HOWN1 := hid (lab_pos (k := 2 * k + 2) HOWN.out HBR.out.size)
   have HP4 := hid (hW4.parts.addM HML.out (hm.mono (T := fun j => lab own wr.heap.size (2 * k + 2) j = 2 * k + 2) (fun j hj h => lab_new _ _ _ h)))
   have HG4 := hid (HG.out.kept hb4)
   have HB4 := hid (HBR.out.trans (hb4.mono HBR.out.size))
   have HB4r := hid hb4
   clear hm hb4 hW4 HG
   have x0 := HW4.out.blk.cell 0
   have xl := HW4.out.blk.lt
   go_wp2_with (at_builtin; go_must (refine wpList_pushL slWk rfl _ _ rfl 0 (.slice AW mbs.length cW) mbs.length (mbs.map ifV) rfl HW4.out.wrow #[ifV mb] w4.heap.size rfl rfl rfl (by intro u hu; simp at hu; subst hu; rfl) (by unfold maxLen; have := HML.out; omega) (by have := HML.out; omega) (Nat.zero_le _) ?_); go_must (intro A' c' wa hown' hb' hgr' hat'; (have hK := HW4.out.blk.other HW4.out.wrow hgr' (by decide)); (have v0 := hK.cell 0); (have f0 := hK.frozen 0); (have lk := hK.lt); (have HK := hid hK); (have HO2 := hid hown'); (have HGR := hid hgr'); (have HAT := hid hat'); clear hK hown' hb' hgr' hat' x0 xl))
   have hW5 := HW4.out.addW HP4.out HGR.out HO2.out HAT.out
   have hg2 := gr_set (p := ⟨xb,0,none⟩) (World.grownBy.refl wa (some xb)) (.inl rfl) (.slice A' (mbs.length + 1) c')
   have hG5 : Blk (wa.setCell ⟨xb,0,none⟩ (.slice A' (mbs.length + 1) c')) gin 29 (inC I.A I.n I.cap I.c I.S I.m I.cS I.AP I.P I.cP I.AD I.D I.cD) := (HG4.out.other HW4.out.wrow HGR.out (by decide)).grown hg2 (by
    intro e
    injection e with e
    have h1 := HXW.out
    have h2 := HGX.out
    omega)
   have hB5 : Below w.heap.size w (wa.setCell ⟨xb,0,none⟩ (.slice A' (mbs.length + 1) c')) := below_gr (HB4.out.grown HGR.out HB4.out.size (fun g hg => HOWN1.out g (by rw [HW4.out.ow g ((own_blkOf _ _ _).symm.trans hg)]; decide))) (Nat.le_trans HB4.out.size HGR.out.size) hg2 HXW.out
   have hz5 : w4.heap.size <= (wa.setCell ⟨xb,0,none⟩ (.slice A' (mbs.length + 1) c')).heap.size := Nat.le_trans HGR.out.size hg2.size
   generalize hw5 : wa.setCell ⟨xb,0,none⟩ (.slice A' (mbs.length + 1) c') = w5 at hW5 hG5 hB5 hz5 ⊢
   have HW5 := hid hW5
   have HG5 := hid hG5
   have HB5 := hid hB5
   have HZ5 := hid hz5
   clear hW5 hG5 hB5 hz5 hw5 hg2 v0 f0 lk HK HO2 HGR HAT HW4 HP4 HG4 HB4
   have hca : (I.c.ca.toNat : Int) = I.c.ca := by have := HN.out.ca; omega
   have HLK : Hid (∀ W,Calls Tryz.prog 47 #[.int .i64 I.c.ca] W fun e w' => e = .returned (.pointer (some ⟨W.heap.size,0,none⟩)) /\ Blk w' W.heap.size 243 (lnkC none 0 0 I.c.ca.toNat 0 0 0) /\ Below W.heap.size W w') := hid (fun W => by
    have := linkNew_any I.c.ca.toNat W (by have := HN.out.ca; omega) (by have := HN.out.ca; omega)
    rw [hca] at this
    exact this)
   have HCA := hid hca
   clear hca
   have hX5 : Blk w5 xb 125 (worldC A' (mbs.length + 1) c' AL lbs.length cL 0) := by
    have := HW5.out.blk
    rwa [List.length_append,List.length_singleton] at this
   have HX5 := hid hX5
   clear hX5
   refine wp_region_early (fun W => Blk W xb 125 (worldC A' (mbs.length + 1) c' AL lbs.length cL 0) /\ Blk W gin 29 (inC I.A I.n I.cap I.c I.S I.m I.cS I.AP I.P I.cP I.AD I.D I.cD)) [0,1,2,3,4,5,6,7] [8,9,10] [11,12,13] (by kernel_rfl) (by kernel_rfl) (⟨HX5.out.drew,HG5.out.drew⟩) ?_
   simp only [List.filterMap_cons,List.filterMap_nil,List.getElem?_cons_succ,List.getElem?_cons_zero]
   refine early_step (.pointer (some ⟨xb,0,none⟩)) rfl (fun W hW => ?_) ?_
   ·obtain ⟨hx,hy⟩ := hW
    have x1 := hx.cell 1
    have xl := hx.lt
    have y11 := hy.cell 11
    have yl := hy.lt
    go_simp
   go_simp
   refine early_step (.pointer (some ⟨xb,0,none⟩)) rfl (fun W hW => ?_) ?_
   ·obtain ⟨hx,hy⟩ := hW
    have x1 := hx.cell 1
    have xl := hx.lt
    have y11 := hy.cell 11
    have yl := hy.lt
    go_simp
   go_simp
   refine early_step (.pointer (some ⟨xb,0,none⟩)) rfl (fun W hW => ?_) ?_
   ·obtain ⟨hx,hy⟩ := hW
    have x1 := hx.cell 1
    have xl := hx.lt
    have y11 := hy.cell 11
    have yl := hy.lt
    go_simp
   go_simp
   refine early_step (.pointer (some ⟨xb,1,none⟩)) rfl (fun W hW => ?_) ?_
   ·obtain ⟨hx,hy⟩ := hW
    have x1 := hx.cell 1
    have xl := hx.lt
    have y11 := hy.cell 11
    have yl := hy.lt
    go_simp
   go_simp
   refine early_step (.slice AL lbs.length cL) rfl (fun W hW => ?_) ?_
   ·obtain ⟨hx,hy⟩ := hW
    have x1 := hx.cell 1
    have xl := hx.lt
    have y11 := hy.cell 11
    have yl := hy.lt
    go_simp
   go_simp
   refine early_step (.pointer (some ⟨gin,0,none⟩)) rfl (fun W hW => ?_) ?_
   ·obtain ⟨hx,hy⟩ := hW
    have x1 := hx.cell 1
    have xl := hx.lt
    have y11 := hy.cell 11
    have yl := hy.lt
    go_simp
   go_simp
   refine early_step (.pointer (some ⟨gin,11,none⟩)) rfl (fun W hW => ?_) ?_
   ·obtain ⟨hx,hy⟩ := hW
    have x1 := hx.cell 1
    have xl := hx.lt
    have y11 := hy.cell 11
    have yl := hy.lt
    go_simp
   go_simp
   refine early_step (.int .i64 I.c.ca) rfl (fun W hW => ?_) ?_
   ·obtain ⟨hx,hy⟩ := hW
    have x1 := hx.cell 1
    have xl := hx.lt
    have y11 := hy.cell 11
    have yl := hy.lt
    go_simp
   go_simp
   change RestW _ _ _ _ _ (_ :: _ :: _ :: []) _ _
   unfold RestW
   go_wp2_with fail
   ((with_reducible refine (HLK.out _).mono ?_); rintro e w6 ⟨rfl,hl6,hb6⟩)
   have hb6' : Below w5.heap.size w5 w6 := ((Kept.start w5).call hb6).2.2
   have hl6' : Blk w6 w5.heap.size 243 (lnkC none 0 0 I.c.ca.toNat 0 0 0) := hl6
   have hW6 := HW5.out.below (own' := lab (lab (lab own wr.heap.size (2 * k + 2)) w4.heap.size 1) w5.heap.size (2 * k + 3)) hb6' (lab_old _ _ _)
   have HP6 := hid (hW6.parts.addL (l := ⟨0,0,[]⟩) HLL.out (link_start hl6' (by have := HN.out.ca; omega) (by have := HN.out.ca; omega) (lab_new _ _ _ (Nat.le_refl _))))
   have HW6 := hid hW6
   have HG6 := hid (HG5.out.kept hb6')
   have HX6 := hid (HX5.out.kept hb6')
   have HB6 := hid (HB5.out.trans (hb6'.mono HB5.out.size))
   have HOW6 := hid (lab_pos (k := 2 * k + 3) (lab_pos (k := 1) HOWN1.out (Nat.le_trans HBR.out.size HB4r.out.size)) HB5.out.size)
   clear hl6 hb6 hb6' hl6' hW6 HLK
   go_wp2_with fail
   refine ⟨⟨HX6.out,HG6.out⟩,?_⟩
   unfold RestW
   change wpList _ _ _ (_ :: []) _ w6
   go_wp2_with fail
   refine ⟨⟨HX6.out.alloc _,HG6.out.alloc _⟩,?_⟩
   unfold RestW
   change wpList _ _ _ (_ :: []) _ (w6.alloc (.cells #[ptV w5.heap.size] 126))
   go_wp2_with (at_builtin; go_must (refine wpList_pushL slLn rfl _ _ rfl 0 (.slice AL lbs.length cL) lbs.length (lbs.map ptV) rfl HW6.out.lrow #[ptV w5.heap.size] w6.heap.size rfl rfl rfl (by intro u hu; simp at hu; subst hu; rfl) (by unfold maxLen; have := HLL.out; omega) (by have := HLL.out; omega) (Nat.zero_le _) ?_); go_must (intro A2 c2 wb hown' hb' hgr' hat'))
   have HX7 := hid (HX6.out.other HW6.out.lrow hgr' (by decide))
   have HG7 := hid (HG6.out.other HW6.out.lrow hgr' (by decide))
   have HO7 := hid hown'
   have HGR := hid hgr'
   have HAT := hid hat'
   clear hown' hb' hgr' hat'
   refine ⟨⟨HX7.out,HG7.out⟩,?_⟩
   unfold RestW
   change wpList _ _ _ (_ :: _ :: _ :: []) _ _
   have v1 := HX7.out.cell 1
   have f1 := HX7.out.frozen 1
   have l1 := HX7.out.lt
   go_wp2_with fail
   refine NoPanic.normal ?_
   have hW8 := HW6.out.addK HP6.out HGR.out HO7.out HAT.out
   have hg2 := gr_set (p := ⟨xb,1,none⟩) (World.grownBy.refl wb (some xb)) (.inl rfl) (.slice A2 (lbs.length + 1) c2)
   have hG8 := HG7.out.grown hg2 (by
    intro e
    injection e with e
    have h1 := HXW.out
    have h2 := HGX.out
    omega)
   have hB8 := below_gr (HB6.out.grown HGR.out HB6.out.size (fun g hg => HOW6.out g (by rw [HW6.out.ol g ((own_blkOf _ _ _).symm.trans hg)]; decide))) (Nat.le_trans HB6.out.size HGR.out.size) hg2 HXW.out
   have hO8 := lab_pos (k := 1) HOW6.out HB6.out.size
   generalize hw8 : wb.setCell ⟨xb,1,none⟩ (.slice A2 (lbs.length + 1) c2) = w8 at hW8 hG8 hB8 ⊢
   have HW8 := hid hW8
   have HG8 := hid hG8
   have HB8 := hid hB8
   have HO8 := hid hO8
   clear hW8 hG8 hB8 hO8 hw8 hg2 v1 f1 l1 HX7 HG7 HO7 HGR HAT
   obtain ⟨k2,hk2⟩ : ∃ k2,k + 1 = k2 := ⟨_,rfl⟩
   have hwk : IntKind.i64.wrap ((k : Int) + 1) = (k2 : Int) := by rw [show (k : Int) + 1 = (k2 : Int) by omega]; exact IntWalk.i64_in _ (by omega)
   have HK2 := hid hk2
   clear hk2
   go_wp2_with fail
   go_roundw
   case rel =>
    refine ⟨k2,_,mbs ++ [mb],lbs ++ [w5.heap.size],A',c',A2,c2,by have := HK2.out; omega,rfl,?_,by simp [HML.out,HK2.out],by simp [HLL.out,HK2.out],HO8.out,HG8.out,HB8.out⟩
    rw [<- HK2.out,startL_succ,startK_succ]
    exact HW8.out
   case measure => simp [intOf]; have := HK2.out; omega
  ·have hkw : k = I.c.wk.toNat := by have := HN.out.wk; omega
   have hlt' : ¬ ((k : Int) < I.c.wk) := hlt
   go_wp2_with fail
   go_ret2
   refine ⟨xb,rfl,⟨own,mbs,lbs,AW,cW,AL,cL,?_,by rw [HML.out,hkw],by rw [HLL.out,hkw],HOWN.out⟩,HBR.out⟩
   have h := HWR.out
   rw [hkw] at h
   exact h
theorem works_any (w : World) : Calls Tryz.prog 8 #[] w fun e w' => e = .returned (.bool true) /\ Below w.heap.size w w' := by
 go_enter Tryz.func8,Tryz.ntmps8
 go_wp2_with fail
 have HSM := hid (small_any w)
 ((with_reducible refine HSM.out.mono ?_); rintro e w1 ⟨A,cap,S,cS,es,AP,cP,AD,cD,rfl,hel,hI,hb1⟩)
 have hO := smI_ok A cap S cS es AP cP AD cD hel
 have hN := schedNew_any _ w1 hI hO
 have hN' : Calls Tryz.prog 12 #[inV A 2 cap smCfg S 2 cS AP 2 cP AD 2 cD] w1 (SNewRet (smI A cap S cS es AP cP AD cD) w1) := hN
 have hst := smW_start A cap S cS es AP cP AD cD
 have hstep := smW_step A cap S cS es AP cP AD cD
 have hpick := smW_pick A cap S cS es AP cP AD cD
 have hwk : (smI A cap S cS es AP cP AD cD).c.wk = 2 := rfl
 have hNP : ((smI A cap S cS es AP cP AD cD).mc 1).NP = 2 := rfl
 generalize hI' : smI A cap S cS es AP cP AD cD = I at hI hO hN' hst hstep hpick hwk hNP
 have HN := hid hN'
 have HO := hid hO
 have HST := hid hst
 have HSTEP := hid hstep
 have HPICK := hid hpick
 have HWK := hid hwk
 have HNP := hid hNP
 have HB1 := hid hb1
 clear HSM hI hN hN' hO hst hstep hpick hwk hNP hb1 hel hI'
 go_wp2_with fail
 ((with_reducible refine HN.out.mono ?_); rintro e w2 ⟨xb,rfl,⟨own,mbs,lbs,AW,cW,AL,cL,hW,hm,hl,hown⟩,hb2⟩)
 have hm2 : mbs.length = 2 := by rw [hm,HWK.out]; rfl
 have hl2 : lbs.length = 2 := by rw [hl,HWK.out]; rfl
 have hW' : WorldIn own w2 xb I mbs lbs (smW 0).mss (smW 0).lss AW cW AL cL (smW 0).cnt := by rw [<- HST.out]; rw [HWK.out] at hW; exact hW
 have hF : Calls Tryz.prog 19 #[.pointer (some ⟨xb,0,none⟩),.int .i64 100] w2 fun e w' => e = .returned (.tuple #[.int .i64 16,.bool true]) /\ ∃ o3,RunIn own w2 o3 w' xb I mbs lbs (smW 16) AW cW AL cL := schedFinish_any smW 16 100 2 hW' hm2 (by decide) (by decide) (by decide) (by decide) smW_open smW_done (fun p own W hp hWp => by
  have hx : p % 2 < 2 := Nat.mod_lt _ (by decide)
  have := pick_step hWp HO.out 2 (p % 2) hm2 hl2 hx (by decide) (by rw [HWK.out]; omega) (HPICK.out p hp)
  rw [HSTEP.out p hp] at this
  exact this)
 have HF := hid hF
 have HM2 := hid hm2
 have HL2 := hid hl2
 have HOWN := hid hown
 have HB2 := hid hb2
 clear hW hW' hF hm hl hm2 hl2 hown hb2 HN
 go_wp2_with fail
 ((with_reducible refine HF.out.mono ?_); rintro e w3 ⟨rfl,own3,hR3⟩)
 have hT := schedTraj_any hR3.wld HO.out 2 1 ⟨[-4,-2],[16,8],[0,0],[([4,2],[0,0]),([-4,-2],[16,8])],[],0,8,[]⟩ HM2.out HL2.out (by decide) (by decide) (by rw [HWK.out]; decide) rfl (by
  rw [HNP.out]
  intro i hi
  match i,hi with
  | 0,_ => exact ⟨rfl,rfl⟩
  | 1,_ => exact ⟨rfl,rfl⟩
  | i + 2,hi => exact absurd hi (by show ¬ i + 2 < 2; omega))
 rw [HNP.out] at hT
 have hT' : Calls Tryz.prog 32 #[.pointer (some ⟨xb,0,none⟩),.int .i64 1] w3 (TrajRet w3 2 [([4,2],[0,0]),([-4,-2],[16,8])]) := hT
 have HT := hid hT'
 have HR3 := hid hR3
 clear hT hT' hR3 HF
 go_wp2_with fail
 ((with_reducible refine HT.out.mono ?_); rintro e w4 ⟨AT,cT,l,hll,rfl,ho,hos,hb4⟩)
 have hR4 := HR3.out.below hb4
 have HD := hid (schedDone_any hR4.wld 2 HM2.out (by decide))
 have hll2 : l.length = 2 := hll
 have ho2 : w4.ownsRow w3.heap.size 92 2 (.slice AT 2 cT) 2 (stv 2 2 l) := ho
 have HLL := hid hll2
 have HTO := hid ho2
 have HTS := hid hos
 have HR4 := hid hR4
 clear hll hll2 ho ho2 hos hR4 hb4 HT
 obtain ⟨⟨P0,c0,M0,d0⟩,⟨P1,c1,M1,d1⟩,rfl⟩ : ∃ a b,l = [a,b] := by
  match l,HLL.out with
  | [a,b],_ => exact ⟨a,b,rfl⟩
 go_wp2_with fail
 ((with_reducible refine HD.out.mono ?_); rintro e w5 ⟨rfl,hb5⟩)
 rw [smW_done]
 obtain ⟨bT,oT,rfl,lT,q0,q1⟩ := stv_rd (k := 1) ((Rd.of_own HTO.out).below hb5) rfl (by decide)
 dsimp only at q0 q1
 have hp := (Rd.of_own (HTS.out 1 _ rfl).1).below hb5
 obtain ⟨bP,oP,e',lP,hc⟩ := hp.2 (by decide)
 dsimp only at e'
 subst e'
 have p0 : w5.cell? ⟨bP,oP,none⟩ = some (.int .i64 (-4)) := hc 0 _ rfl
 have p1 : w5.cell? ⟨bP,oP + 1,none⟩ = some (.int .i64 (-2)) := hc 1 _ rfl
 rw [Nat.one_mul] at q0 q1
 clear hp hc
 have HB5 := hid hb5
 clear hb5
 go_wp2_with fail
 go_ret
 refine ⟨rfl,?_⟩
 have h25 := (HR4.out.but.call HB5.out).below HB2.out.size HOWN.out
 exact HB1.out.trans ((HB2.out.trans h25).mono HB1.out.size)
abbrev rsmp (n b st : Nat) (Ao : Option Addr) (E co : Nat) : Value := .agg #[.int .i64 n,.int .i64 b,.int .i64 st,.slice Ao E co]
structure RSmp (w : World) (base n : Nat) (Ao : Option Addr) (E co : Nat) (os : List (List Int)) : Prop where
 ex : ∃ vs,w.ownsRow base 22 1 (.slice Ao E co) E (slsv vs) /\ OwnN w base vs os
theorem RSmp.below {w w' : World} {base n : Nat} {Ao : Option Addr} {E co : Nat} {os : List (List Int)} (h : RSmp w base n Ao E co os) (hb : Below w.heap.size w w') : RSmp w' base n Ao E co os := by
 obtain ⟨vs,h1,h2⟩ := h.ex
 exact ⟨vs,own_below h1 hb,h2.below hb⟩
end
section
open Go.RowKit
variable (base b st q E n co : Nat) (Ao : Option Addr) (L : List Int) (w : World)
theorem refEpoch_no (t : Int) (ht : t < 0 \/ st <= t) :
  Calls Tryz.prog 92 #[rsmp n b st Ao E co,.int .i64 t] w fun e w' => e = .returned (.tuple #[.int .i64 0,.int .i64 0,.bool false]) /\ Below w.heap.size w w' := by
 by_cases h1 : t < 0
 ·have e1 : decide (t < 0) = true := decide_eq_true h1
  clear ht
  go_enter Tryz.func92,Tryz.ntmps92
  go_wp2_with fail
  exact bodyPost_ret (v := .tuple #[.int .i64 0,.int .i64 0,.bool false]) (by simp [results,Tryz.results92,go_sem]) rfl ⟨rfl,(Below.refl _ _).alloc (Nat.le_refl _) _⟩
 ·have e1 : decide (t < 0) = false := decide_eq_false h1
  have e2 : decide ((st : Int) <= t) = true := decide_eq_true (by omega)
  clear ht
  go_enter Tryz.func92,Tryz.ntmps92
  go_wp2_with fail
  exact bodyPost_ret (v := .tuple #[.int .i64 0,.int .i64 0,.bool false]) (by simp [results,Tryz.results92,go_sem]) rfl ⟨rfl,(Below.refl _ _).alloc (Nat.le_refl _) _⟩
theorem refEpoch_yes (P : SmpP n b st q E) (t : Nat) (ht : t < st) :
  Calls Tryz.prog 92 #[rsmp n b st Ao E co,.int .i64 t] w fun e w' => e = .returned (.tuple #[.int .i64 ((t / q : Nat) : Int),.int .i64 ((t % q : Nat) : Int),.bool true]) /\ Below w.heap.size w w' := by
 have e1 : decide ((t : Int) < 0) = false := decide_eq_false (by omega)
 have e2 : decide ((st : Int) <= (t : Int)) = false := decide_eq_false (by omega)
 have e3 : decide (st <= t) = false := decide_eq_false (by omega)
 have hst := P.hst
 have hq := P.hq
 have hq2 := P.hq2
 have hb1 := P.hb1
 have hnn := P.hn
 have hbn := P.hbn
 have hw0 : IntKind.i64.wrap ((n : Int) / (b : Int)) = (q : Int) := by
  rw [<- Int.natCast_ediv,P.hdiv,IntKind.wrap_i64]
  omega
 have hw0' : (n : Int) / (b : Int) = (q : Int) := by rw [<- Int.natCast_ediv,P.hdiv]
 clear P
 go_enter Tryz.func92,Tryz.ntmps92
 go_wp2_with fail
 go_region
 go_wp2
 have hw1 : wrap64 ((t : Int) / (q : Int)) = (t : Int) / (q : Int) := by
  have hd := Nat.div_le_self t q
  rw [<- Int.natCast_ediv]
  generalize t / q = d at hd ⊢
  exact IntWalk.wrap64_in _ (by omega)
 exact bodyPost_ret (v := .tuple #[.int .i64 ((t / q : Nat) : Int),.int .i64 ((t % q : Nat) : Int),.bool true]) (by simp [results,Tryz.results92,go_sem,hw1]) rfl ⟨rfl,((Below.refl _ _).alloc (Nat.le_refl _) _).drew⟩
theorem refBatch_no (t : Int) (ht : t < 0 \/ st <= t) :
  Calls Tryz.prog 27 #[rsmp n b st Ao E co,.int .i64 t] w (RdRet w 0 []) := by
 have HE := hid (fun W => refEpoch_no b st E n co Ao W t ht)
 clear ht
 go_enter Tryz.func27,Tryz.ntmps27
 go_wp2_with fail
 ((with_reducible refine (HE.out _).mono ?_); rintro e w1 ⟨rfl,hb1⟩)
 have HB := hid (((Below.refl w.heap.size w).alloc (Nat.le_refl _) (.cells #[.int .i64 n,.int .i64 b,.int .i64 st,.slice Ao E co] 84)).trans (hb1.mono (by simp)))
 clear hb1
 go_wp2_with fail
 go_ret
 exact RdRet.none _ _ HB.out
theorem refBatch_yes (P : SmpP n b st q E) (t : Nat) (ht : t < st) (h : RSmp w base n Ao E co (ordsL L n E)) :
  Calls Tryz.prog 27 #[rsmp n b st Ao E co,.int .i64 t] w (RdRet w b (batchL L n b q st t)) := by
 have HE := hid (fun W => refEpoch_yes b st q E n co Ao W P t ht)
 obtain ⟨vs,hro,hon⟩ := h.ex
 have hq := P.hq
 have hq2 := P.hq2
 have hb1 := P.hb1
 have hnn := P.hn
 have hqb := P.hqb
 have hst := P.hst
 have hmq : t % q < q := Nat.mod_lt _ (by omega)
 have hdE : t / q < E := by
  rw [<- P.hE]
  refine (lt_cnt st q _ (by omega) hq).2 ?_
  have := Nat.div_mul_le_self t q
  omega
 have hfit : t % q * b + b <= n := by
  have h1 : (t % q + 1) * b <= q * b := Nat.mul_le_mul_right b hmq
  rw [Nat.succ_mul] at h1
  omega
 have HBL : Hid (batchL L n b q st t = ((pemL L n (t / q * (n - 1))).drop (t % q * b)).take b) := hid (by
  rw [batchL,if_pos ⟨by omega,by omega⟩]
  rfl)
 obtain ⟨e',he⟩ : ∃ e',t / q = e' := ⟨_,rfl⟩
 obtain ⟨i,hi⟩ : ∃ i,t % q = i := ⟨_,rfl⟩
 rw [he] at HE hdE HBL
 rw [hi] at HE hmq hfit HBL
 rw [HBL.out]
 have hmul : IntKind.i64.wrap ((i : Int) * (b : Int)) = ((i * b : Nat) : Int) := by
  rw [<- Int.natCast_mul,IntKind.wrap_i64]
  omega
 obtain ⟨lo,hlo⟩ : ∃ lo,i * b = lo := ⟨_,rfl⟩
 rw [hlo] at hmul hfit HBL ⊢
 obtain ⟨s,hs⟩ : ∃ s,vs[e']? = some s := ⟨_,List.getElem?_eq_getElem (by rw [hon.len,ordsL_length]; exact hdE)⟩
 obtain ⟨Ae,ne,ce⟩ := s
 obtain ⟨hne,hre⟩ := hon.row e' _ _ hs (ordsL_get L n E e' hdE)
 have hne' : ne = n := by rw [pemL_length] at hne; exact hne
 subst hne'
 have HRE := hid (Rd.of_own hre)
 have hce : ne <= ce := by
  obtain ⟨_,_,q1,q2,_,_⟩ := own_form hre
  injection q1 with q4 _ q5
  simp only at q5
  subst q5
  exact q2
 obtain ⟨b1,o1,e1,hb1',c1⟩ := (Rd.of_own hro).2 (by omega)
 subst e1
 have d1 := c1 e' _ (slsv_get hs)
 have g3 : (0 : Int) <= (e' : Int) := by omega
 have g4 : (e' : Int) < (E : Int) := by omega
 have HLN : Hid ((pemL L ne (e' * (ne - 1))).length = ne) := hid (pemL_length _ _ _)
 clear hro hon hs hne hre c1 he hi hlo hqb P h
 have HG : Hid (∀ W,w.alloc (.cells #[.int .i64 ne,.int .i64 b,.int .i64 st,.slice (some ⟨b1,o1,none⟩) E co] 84) = W -> Below w.heap.size w W /\ Blk W w.heap.size 84 #[.int .i64 ne,.int .i64 b,.int .i64 st,.slice (some ⟨b1,o1,none⟩) E co]) := hid (by
  rintro W rfl
  exact ⟨(Below.refl _ _).alloc (Nat.le_refl _) _,Blk.new _ _ _⟩)
 go_enter Tryz.func27,Tryz.ntmps27
 go_wp2_with fail
 ((with_reducible refine (HE.out _).mono ?_); rintro e w1 ⟨rfl,hb9⟩)
 obtain ⟨hB,hK⟩ := HG.out _ rfl
 have hk1 := hK.kept hb9
 have hbw := hB.trans (hb9.mono hB.size)
 have HB9 := hid hbw
 have z1 : w1.cell? ⟨w.heap.size,1,none⟩ = some (.int .i64 b) := hk1.cell 1
 have z3 : w1.cell? ⟨w.heap.size,3,none⟩ = some (.slice (some ⟨b1,o1,none⟩) E co) := hk1.cell 3
 have z4 := hk1.lt
 have d1' := ((bcell hbw).1 b1 (o1 + e') hb1').trans d1
 have l2' : b1 < w1.heap.size := Nat.lt_of_lt_of_le hb1' hbw.size
 clear hb9 hbw hB hK hk1 d1 hb1' HE
 go_wp2_with fail
 go_region
 go_wp2
 rw [show lo + b - lo = b by omega]
 go_ret
 exact ⟨_,_,rfl,by omega,(rd_map (HRE.out.below HB9.out) HLN.out lo b hfit).drew,HB9.out.drew⟩
theorem refBatch_any (P : SmpP n b st q E) (t : Int) (h : RSmp w base n Ao E co (ordsL L n E)) :
  Calls Tryz.prog 27 #[rsmp n b st Ao E co,.int .i64 t] w (RdRet w (batchL L n b q st t).length (batchL L n b q st t)) := by
 by_cases ht : 0 <= t /\ t < st
 ·obtain ⟨T,rfl⟩ := Int.eq_ofNat_of_zero_le ht.1
  rw [batchL_length P L T (by omega)]
  exact refBatch_yes base b st q E n co Ao L w P T (by omega) h
 ·rw [batchL_no L t (by omega)]
  exact refBatch_no b st E n co Ao w t (by omega)
end
section
open Go.RowKit
theorem set4 {w : World} {g : Nat} {t : TypeId} {x y z u : Value} (h : Blk w g t #[x,y,z,u]) (a b c d : Value) :
  w.grownBy ((((w.setCell ⟨g,0,none⟩ a).setCell ⟨g,1,none⟩ b).setCell ⟨g,2,none⟩ c).setCell ⟨g,3,none⟩ d) (some g) /\ Blk ((((w.setCell ⟨g,0,none⟩ a).setCell ⟨g,1,none⟩ b).setCell ⟨g,2,none⟩ c).setCell ⟨g,3,none⟩ d) g t #[a,b,c,d] :=
 ⟨gr_set (p := ⟨g,3,none⟩) (gr_set (p := ⟨g,2,none⟩) (gr_set (p := ⟨g,1,none⟩) (gr_set (p := ⟨g,0,none⟩) (World.grownBy.refl w _) (.inl rfl) a) (.inl rfl) b) (.inl rfl) c) (.inl rfl) d,by simpa using (((h.set_ 0 a).set_ 1 b).set_ 2 c).set_ 3 d⟩
abbrev noSmp : Value := .agg #[.int .i64 0,.int .i64 0,.int .i64 0,.slice none 0 0]
def RNewOut (w : World) (b st N n E : Nat) (L : List Int) (e : Ending) (w' : World) : Prop :=
 Below w.heap.size w w' /\ ((E * (n - 1) <= N /\ ∃ Ao co vs,e = .returned (.tuple #[.agg #[.int .i64 n,.int .i64 b,.int .i64 st,.slice Ao E co],.int .i64 0]) /\ w'.ownsRow w.heap.size 22 1 (.slice Ao E co) E (slsv vs) /\ OwnN w' w.heap.size vs (ordsL L n E)) \/ (N < E * (n - 1) /\ e = .returned (.tuple #[noSmp,.int .i64 8])))
end
section
open Go.RowKit
variable (n b st N cap q E : Nat) (A : Option Addr) (L : List Int) (w : World)
theorem refNew12_any (hb1 : 1 <= b) (hbn : b <= n) (hn : n <= 60) (hst : st <= 60) (hq : n / b = q) (hE : cnt st q = E) (hN2 : N <= 4000) (hl : L.length = N) (h : Rd w 1 A N (uv L)) (hu : InU L) :
  Calls Tryz.prog 93 #[.int .i64 n,.int .i64 b,.int .i64 st,.slice A N cap] w (RNewOut w b st N n E L) := by
 have e1 : decide ((n : Int) < 1) = false := decide_eq_false (by omega)
 have e2 : decide ((1048576 : Int) < (n : Int)) = false := decide_eq_false (by omega)
 have e3 : decide ((st : Int) < 0) = false := decide_eq_false (by omega)
 have e4 : decide ((1048576 : Int) < (st : Int)) = false := decide_eq_false (by omega)
 have e5 : decide ((b : Int) < 1) = false := decide_eq_false (by omega)
 have e6 : decide (n < b) = false := decide_eq_false (by omega)
 have hE60 : E <= 60 := by rw [<- hE]; exact Nat.le_trans (cnt_le st q) hst
 have HEP := hid (fun W => (by have h := epochs_any n b st q W (by omega) hb1 hbn (by omega) hq; rw [hE] at h; exact h : Calls Tryz.prog 176 #[.int .i64 n,.int .i64 b,.int .i64 st] W fun e w' => e = .returned (.int .i64 (E : Nat)) /\ W = w'))
 obtain ⟨m,hm⟩ : ∃ m,n - 1 = m := ⟨_,rfl⟩
 have HND := hid (fun W => (by have h := need_any n W (by omega); rw [hm] at h; exact h : Calls Tryz.prog 100 #[.int .i64 n] W fun e w' => e = .returned (.int .i64 (m : Nat)) /\ W = w'))
 obtain ⟨Em,hEm⟩ : ∃ Em,E * m = Em := ⟨_,rfl⟩
 have hm60 : m <= 60 := by omega
 have hEmb : Em <= 3600 := by rw [<- hEm]; exact Nat.le_trans (Nat.mul_le_mul hE60 hm60) (by omega)
 have hw : IntKind.i64.wrap ((E : Int) * (m : Int)) = (Em : Int) := by
  rw [<- Int.natCast_mul,hEm,IntKind.wrap_i64]
  omega
 have HM := hid hm
 have HEM := hid hEm
 have HR := hid h
 have HL := hid hl
 have HU := hid hu
 clear h hl hu hq hE hm hEm
 have H0 : Hid (Below w.heap.size w (w.alloc (.cells #[.int .i64 0,.int .i64 0,.int .i64 0,.slice none 0 0] 84)) /\ Blk (w.alloc (.cells #[.int .i64 0,.int .i64 0,.int .i64 0,.slice none 0 0] 84)) w.heap.size 84 #[.int .i64 0,.int .i64 0,.int .i64 0,.slice none 0 0]) := hid ⟨(Below.refl _ _).alloc (Nat.le_refl _) _,Blk.new _ _ _⟩
 go_enter Tryz.func93,Tryz.ntmps93
 go_wp2_with fail
 ((with_reducible refine (HEP.out _).mono ?_); rintro e wx ⟨rfl,rfl⟩)
 go_wp2_with fail
 ((with_reducible refine (HND.out _).mono ?_); rintro e wx ⟨rfl,rfl⟩)
 by_cases hfit : N < Em
 ·have e7 : decide ((N : Int) < (Em : Int)) = true := decide_eq_true (by omega)
  have e7' : decide (N < Em) = true := decide_eq_true (by omega)
  go_wp2
  exact bodyPost_ret (v := .tuple #[noSmp,.int .i64 8]) (by simp [results,Tryz.results93,go_sem]) rfl ⟨((Below.refl _ _).alloc (Nat.le_refl _) _).alloc (by simp) _,.inr ⟨by rw [HM.out,HEM.out]; exact hfit,rfl⟩⟩
 ·have e7 : decide ((N : Int) < (Em : Int)) = false := decide_eq_false (by omega)
  have e7' : decide (N < Em) = false := decide_eq_false (by omega)
  obtain ⟨g,hg⟩ : ∃ g,w.heap.size = g := ⟨_,rfl⟩
  have HX : Hid (∀ w3,((w.alloc (.cells #[.int .i64 0,.int .i64 0,.int .i64 0,.slice none 0 0] 84)).alloc (.cells #[.int .i64 n,.int .i64 b,.int .i64 st,.slice none 0 0] 84)).alloc (.cells #[.slice A N cap,.int .i64 0] 316) = w3 -> Below w.heap.size w w3 /\ Blk w3 g 84 #[.int .i64 0,.int .i64 0,.int .i64 0,.slice none 0 0] /\ Blk w3 (g + 1) 84 #[.int .i64 n,.int .i64 b,.int .i64 st,.slice none 0 0] /\ Blk w3 (g + 1 + 1) 316 #[.slice A N cap,.int .i64 ((0 : Nat) : Int)]) := hid (by
   rintro w3 rfl
   exact ⟨(((Below.refl _ _).alloc (Nat.le_refl _) _).alloc (by simp) _).alloc (by simp; omega) _,((Blk.new' _ _ hg).alloc _).alloc _,(Blk.new' _ _ (by simp [hg])).alloc _,Blk.new' _ _ (by simp [hg])⟩)
  go_wp2_with fail
  have HG := hid hg
  clear hg
  obtain ⟨w3,hw3⟩ : ∃ w3,((w.alloc (.cells #[.int .i64 0,.int .i64 0,.int .i64 0,.slice none 0 0] 84)).alloc (.cells #[.int .i64 n,.int .i64 b,.int .i64 st,.slice none 0 0] 84)).alloc (.cells #[.slice A N cap,.int .i64 0] 316) = w3 := ⟨_,rfl⟩
  have HX3 := hid (HX.out w3 hw3)
  rw [hw3]
  clear hw3 HX H0
  have hfitN : Hid (Em <= N) := hid (by omega)
  have hfN : Em <= N := hfitN.out
  go_loopw [13] (fun c wr => ∃ (j t E' : Nat) (Ao : Option Addr) (co : Nat) (vs : List SlN),j <= E /\ c = .int .i64 j /\ Hid (t = j * m) /\ Hid (E' = j) /\ Blk wr g 84 #[.int .i64 0,.int .i64 0,.int .i64 0,.slice none 0 0] /\ Blk wr (g + 1) 84 #[.int .i64 n,.int .i64 b,.int .i64 st,.slice Ao E' co] /\ Blk wr (g + 1 + 1) 316 #[.slice A N cap,.int .i64 t] /\ wr.ownsRow w3.heap.size 22 1 (.slice Ao E' co) E' (slsv vs) /\ OwnN wr w3.heap.size vs (ordsL L n j) /\ Below w.heap.size w wr /\ w3.heap.size <= wr.heap.size) (fun c _ => E - (intOf c).toNat)
  case atStart => exact ⟨0,0,0,none,0,[],by omega,rfl,hid (by simp),hid rfl,HX3.out.2.1,HX3.out.2.2.1,HX3.out.2.2.2,World.ownsRow_nil _ _ _ _,OwnN.nil _ _,HX3.out.1,Nat.le_refl _⟩
  case round =>
   obtain ⟨j,t,E',Ao,co,vs,hj,rfl,ht,hE',hz,hs,hst',ho,hon,hb,hsz⟩ := hrel
   have hwz := HX3.out.1.size
   have hg3 : g + 1 + 1 < w3.heap.size := HX3.out.2.2.2.lt
   by_cases hlt : j < E
   ·obtain ⟨t',ht'⟩ : ∃ t',t + m = t' := ⟨_,rfl⟩
    have htN : t' <= N := by
     have h1 := Nat.mul_le_mul_right m (show j + 1 <= E from hlt)
     rw [HEM.out,Nat.succ_mul,<- ht.out,ht'] at h1
     omega
    have C := refShuf_at N cap n t A L wr HL.out (HR.out.below hb) HU.out (by omega) (by rw [HM.out,ht']; exact htN) (by omega)
    rw [HM.out,ht'] at C
    have HC := hid C
    have HT' : Hid (t' = (j + 1) * m) := hid (by rw [Nat.succ_mul,<- ht.out]; exact ht'.symm)
    have HPM : Hid (ordsL L n (j + 1) = ordsL L n j ++ [pemL L n t]) := hid (by rw [ordsL_succ,HM.out,ht.out])
    have HZ := hid hz
    have HS := hid hs
    have HST := hid hst'
    have HO := hid ho
    have HON := hid hon
    have HB := hid hb
    have hE60' : E' <= 60 := by rw [hE'.out]; omega
    have s0 : wr.cell? ⟨g + 1 + 1,0,none⟩ = some (.slice A N cap) := hst'.cell 0
    have s1 : wr.cell? ⟨g + 1 + 1,1,none⟩ = some (.int .i64 t) := hst'.cell 1
    have s2 := hst'.lt
    clear hz hs hst' ho hon hb C ht'
    go_wp2_with fail
    ((with_reducible refine HC.out.mono ?_); rintro e w5 ⟨A1,c1,rfl,hown5,hb5⟩)
    have S5 := HST.out.kept hb5
    have st5 := store2' S5 (.slice A N cap) (.int .i64 t')
    have HST5 := hid st5
    have cs0 := S5.cell 0
    have cs1 := S5.cell 1
    have fs0 := S5.frozen 0
    have fs1 := S5.frozen 1
    have l5 := S5.lt
    have HO5 := hid ((own_below HO.out hb5).kept st5.1 (.inr (own_blk_ne (own_below HO.out hb5) S5 (by decide))))
    have HN5 := hid ((HON.out.below hb5).but (But.of_gr (S := fun q => q = g + 1 + 1) st5.1 rfl) (fun v n xs q h e e' => own_blk_ne h S5 (by decide) (e.trans (by rw [e']))))
    have HP5 := hid (hown5.kept st5.1 (.inr (own_blk_ne hown5 S5 (by decide))))
    have HZ5 := hid ((HZ.out.kept hb5).grown st5.1 (by simp; omega))
    have HS5 := hid ((HS.out.kept hb5).grown st5.1 (by simp))
    have HB5 := hid (below_gr (HB.out.trans (hb5.mono HB.out.size)) (Nat.le_trans HB.out.size hb5.size) st5.1 (by have := HG.out; omega))
    have hsz5 : w3.heap.size <= w5.heap.size := Nat.le_trans hsz hb5.size
    have hs3 : w5.cell? ⟨g + 1,3,none⟩ = some (.slice Ao E' co) := (HS.out.kept hb5).cell 3
    have hsl := (HS.out.kept hb5).lt
    have hsf := (HS.out.kept hb5).frozen 3
    clear hown5 hb5 S5 st5 s0 s1 s2
    obtain ⟨X,hX⟩ : ∃ X,((w5.setCell ⟨g + 1 + 1,0,none⟩ (.slice A N cap)).setCell ⟨g + 1 + 1,1,none⟩ (.int .i64 t')).alloc (.cells #[.slice A N cap,.int .i64 t'] 316) = X := ⟨_,rfl⟩
    have HOa : Hid (X.ownsRow w3.heap.size 22 1 (.slice Ao E' co) E' (slsv vs)) := hid (by rw [<- hX]; exact HO5.out.alloc _)
    have HNa : Hid (OwnN X w3.heap.size vs (ordsL L n j)) := hid (by rw [<- hX]; exact HN5.out.below ((Below.refl _ _).alloc (Nat.le_refl _) _))
    have HPa : Hid (X.ownsRow w3.heap.size 3 1 (.slice A1 n c1) n (iv (pemL L n t))) := hid (by rw [<- hX]; exact own_base (HP5.out.alloc _) hsz)
    have HZa : Hid (Blk X g 84 #[.int .i64 0,.int .i64 0,.int .i64 0,.slice none 0 0]) := hid (by rw [<- hX]; exact HZ5.out.alloc _)
    have HSa : Hid (Blk X (g + 1) 84 #[.int .i64 n,.int .i64 b,.int .i64 st,.slice Ao E' co]) := hid (by rw [<- hX]; exact HS5.out.alloc _)
    have HTa : Hid (Blk X (g + 1 + 1) 316 #[.slice A N cap,.int .i64 t']) := hid (by rw [<- hX]; exact HST5.out.2.alloc _)
    have HBa : Hid (Below w.heap.size w X) := hid (by rw [<- hX]; exact HB5.out.alloc HB5.out.size _)
    have hszX : w3.heap.size <= X.heap.size := by rw [<- hX]; simp [World.setCell]; omega
    have HXX := hid hX
    have hXs : w5.heap.size + 1 = X.heap.size := by rw [<- hX]; simp [World.setCell]
    have HXS := hid hXs
    have HSN := hid (slsv_snoc vs (A1,n,c1))
    clear hX hXs HO5 HN5 HP5 HZ5 HS5 HB5 HST5
    go_wp2_with (at_builtin; rw [HXX.out]; go_must (refine wpList_pushG slRows rfl _ _ rfl w3.heap.size _ E' (slsv vs) rfl HOa.out #[.slice A1 n c1] (w5.heap.size + 1) rfl HXS.out rfl (uone_sl _ _ _) (by unfold maxLen; omega) (by omega) hszX ?_); go_must (intro A6 c6 w6 hown6 hb6 hg6; (have HS6 := hid (HSa.out.other HOa.out hg6 (by decide))); (have d3 := HS6.out.cell 3); (have df := HS6.out.frozen 3); (have dl := HS6.out.lt); (have HO6 := hid hown6); (have HG6 := hid hg6); (have HB6 := hid hb6); clear hown6 hb6 hg6 HXX cs0 cs1 fs0 fs1 hs3 hsl hsf l5))
    have hst := blk_set3 HS6.out (.slice A6 (E' + 1) c6)
    have HST6 := hid hst
    clear hst d3 df
    go_roundw
    case rel =>
     refine ⟨j + 1,t',E' + 1,A6,c6,vs ++ [(A1,n,c1)],by omega,by go_num,HT',hid (by rw [hE'.out]),(HZa.out.other HOa.out HG6.out (by decide)).grown HST6.out.1 (by simp),HST6.out.2,(HTa.out.other HOa.out HG6.out (by decide)).grown HST6.out.1 (by simp),?_,?_,?_,?_⟩
     ·rw [HSN.out]
      exact HO6.out.kept HST6.out.1 (.inr (own_blk_ne HO6.out HS6.out (by decide)))
     ·rw [HPM.out]
      have hp6 := HPa.out.kept HG6.out (own_ne_own HPa.out HOa.out (by decide))
      refine OwnN.snoc ((HNa.out.rowkept HOa.out (by decide) HG6.out).but (But.of_gr (S := fun q => q = g + 1) HST6.out.1 rfl) (fun v n xs q h e e' => own_blk_ne h HS6.out (by decide) (e.trans (by rw [e'])))) (by rw [pemL_length]) (hp6.kept HST6.out.1 (.inr (own_blk_ne hp6 HS6.out (by decide))))
     ·have h1 := HBa.out.trans (HB6.out.mono hwz)
      exact below_gr h1 h1.size HST6.out.1 (by have := HG.out; omega)
     ·have := HB6.out.size
      simp [World.setCell]
      omega
    case measure => simp [intOf]; omega
   ·obtain rfl : j = E := by omega
    obtain rfl : E' = j := hE'.out
    have HO := hid (own_base ho hwz)
    have HON := hid (hon.base hwz)
    have HB := hid hb
    have HZ := hid hz
    have HS := hid hs
    have s0 : wr.cell? ⟨g + 1,0,none⟩ = some (.int .i64 n) := hs.cell 0
    have s1 : wr.cell? ⟨g + 1,1,none⟩ = some (.int .i64 b) := hs.cell 1
    have s2 : wr.cell? ⟨g + 1,2,none⟩ = some (.int .i64 st) := hs.cell 2
    have s3 : wr.cell? ⟨g + 1,3,none⟩ = some (.slice Ao E' co) := hs.cell 3
    have s4 := hs.lt
    have z0 := hz.cell 0
    have z1 := hz.cell 1
    have z2 := hz.cell 2
    have z3 := hz.cell 3
    have z4 := hz.lt
    have y0 := hz.frozen 0
    have y1 := hz.frozen 1
    have y2 := hz.frozen 2
    have y3 := hz.frozen 3
    clear hz hs hst' ho hon hb
    go_wp2_with fail
    have hst4 := set4 HZ.out (.int .i64 n) (.int .i64 b) (.int .i64 st) (.slice Ao E' co)
    exact bodyPost_ret (v := .tuple #[.agg #[.int .i64 n,.int .i64 b,.int .i64 st,.slice Ao E' co],.int .i64 0]) (by simp [results,Tryz.results93,go_sem,z0,z1,z2,z3,z4]) rfl ⟨below_gr HB.out HB.out.size hst4.1 (by have := HG.out; omega),.inl ⟨by rw [HM.out,HEM.out]; exact hfN,Ao,co,vs,rfl,HO.out.kept hst4.1 (.inr (own_blk_ne HO.out HZ.out (by decide))),HON.out.but (But.of_gr (S := fun q => q = g) hst4.1 rfl) (fun v n xs q h e e' => own_blk_ne h HZ.out (by decide) (e.trans (by rw [e'])))⟩⟩
end
section
open Go.RowKit
theorem set4q {w : World} {g : Nat} {t : TypeId} {x y z u : Value} (h : Blk w g t #[x,y,z,u]) (a b c d : Value) :
  w.grownBy ((((w.setCell ⟨g,0,none⟩ a).setCell ⟨g,1,none⟩ b).setCell ⟨g,2,none⟩ c).setCell ⟨g,3,none⟩ d) (some g) /\ Blk ((((w.setCell ⟨g,0,none⟩ a).setCell ⟨g,1,none⟩ b).setCell ⟨g,2,none⟩ c).setCell ⟨g,3,none⟩ d) g t #[a,b,c,d] :=
 ⟨gr_set (p := ⟨g,3,none⟩) (gr_set (p := ⟨g,2,none⟩) (gr_set (p := ⟨g,1,none⟩) (gr_set (p := ⟨g,0,none⟩) (World.grownBy.refl w _) (.inl rfl) a) (.inl rfl) b) (.inl rfl) c) (.inl rfl) d,by simpa using (((h.set_ 0 a).set_ 1 b).set_ 2 c).set_ 3 d⟩
theorem own_farq {w w' : World} {base g : Nat} {e : TypeId} {size : Nat} {v : Value} {n : Nat} {xs : List Value} (h : w.ownsRow base e size v n xs) (hg : w.grownBy w' (some g)) (hlt : g < base) : w'.ownsRow base e size v n xs := by
 refine h.kept hg ?_
 rcases h.2 with ⟨rfl,_⟩ | ⟨g',cap,cur,rfl,hb,_⟩
 ·exact .inl rfl
 ·refine .inr fun e' => ?_
  have e2 : g' = g := by simpa [Value.ownBlock] using e'
  omega
theorem RSmp.far {w w' : World} {base n g : Nat} {Ao : Option Addr} {E co : Nat} {os : List (List Int)} (h : RSmp w base n Ao E co os) (hg : w.grownBy w' (some g)) (hlt : g < base) : RSmp w' base n Ao E co os := by
 obtain ⟨vs,h1,h2⟩ := h.ex
 exact ⟨vs,own_farq h1 hg hlt,⟨h2.len,fun i s l a b => ⟨(h2.row i s l a b).1,own_farq (h2.row i s l a b).2 hg hlt⟩⟩⟩
theorem RSmp.lower {w : World} {base base' n : Nat} {Ao : Option Addr} {E co : Nat} {os : List (List Int)} (h : RSmp w base n Ao E co os) (hb : base' <= base) : RSmp w base' n Ao E co os := by
 obtain ⟨vs,h1,h2⟩ := h.ex
 exact ⟨vs,own_base h1 hb,h2.base hb⟩
def Samp14Ret (m b st E : Nat) (L : List Int) (w : World) (e : Ending) (w' : World) : Prop := ∃ Ao co,e = .returned (rsmp m b st Ao E co) /\ RSmp w' w.heap.size m Ao E co (ordsL L m E) /\ Below w.heap.size w w'
theorem samp14_any (A : Option Addr) (n cap : Nat) (c : Cfg) (S : Option Addr) (m cS : Nat) (AP : Option Addr) (P cP : Nat) (AD : Option Addr) (D cD b st q E : Nat) (L : List Int) (w : World)
  (hb : c.ba = b) (hst : c.st = st) (hb1 : 1 <= b) (hbn : b <= m) (hm : m <= 60) (hs : st <= 60) (hq : m / b = q) (hE : cnt st q = E) (hD2 : D <= 4000) (hl : L.length = D) (h : Rd w 1 AD D (uv L)) (hu : InU L) (hneed : E * (m - 1) <= D) :
  Calls Tryz.prog 28 #[inV A n cap c S m cS AP P cP AD D cD] w (Samp14Ret m b st E L w) := by
 have HNW := hid (fun W (r : Rd W 1 AD D (uv L)) => refNew12_any m b st D cD q E AD L W hb1 hbn hm hs hq hE hD2 hl r hu)
 have HG : Hid (∀ W,(w.alloc (.cells (inC A n cap c S m cS AP P cP AD D cD) 29)).alloc (.cells #[.int .i64 0,.int .i64 0,.int .i64 0,.slice none 0 0] 84) = W -> Below w.heap.size w W /\ Blk W w.heap.size 29 (inC A n cap c S m cS AP P cP AD D cD) /\ Blk W (w.heap.size + 1) 84 #[.int .i64 0,.int .i64 0,.int .i64 0,.slice none 0 0]) := hid (by
  rintro W rfl
  exact ⟨((Below.refl _ _).alloc (Nat.le_refl _) _).alloc (by simp) _,(Blk.new _ _ _).alloc _,Blk.new' _ _ (by simp)⟩)
 have HR := hid h
 have HN := hid hneed
 have HBB := hid hb
 have HST := hid hst
 clear hb hst hb1 hbn hm hs hq hE hD2 hl h hu hneed
 go_enter Tryz.func28,Tryz.ntmps28
 go_wp2_with fail
 obtain ⟨w0,hw0⟩ : ∃ w0,(w.alloc (.cells (inC A n cap c S m cS AP P cP AD D cD) 29)).alloc (.cells #[.int .i64 0,.int .i64 0,.int .i64 0,.slice none 0 0] 84) = w0 := ⟨_,rfl⟩
 obtain ⟨hB,hI,hX⟩ := HG.out _ hw0
 rw [hw0]
 have HB := hid hB
 have HI := hid hI
 have HX := hid hX
 clear hw0 HG hB hI hX
 have k := HI.out
 have c5 : w0.cell? ⟨w.heap.size,5,none⟩ = some (.int .i64 c.ba) := k.cell 5
 have c7 : w0.cell? ⟨w.heap.size,7,none⟩ = some (.int .i64 c.st) := k.cell 7
 have c12 : w0.cell? ⟨w.heap.size,12,none⟩ = some (.slice S m cS) := k.cell 12
 have c14 : w0.cell? ⟨w.heap.size,14,none⟩ = some (.slice AD D cD) := k.cell 14
 have cl := k.lt
 clear k
 go_wp2_with fail
 rw [HBB.out,HST.out]
 ((with_reducible refine (HNW.out _ (HR.out.below HB.out)).mono ?_); rintro e w1 ⟨hb1,(⟨-,Ao,co,vs,rfl,ho1,hn1⟩ | ⟨hbad,-⟩)⟩)
 rotate_left
 ·exfalso
  have := HN.out
  omega
 have HB1 := hid (HB.out.trans (hb1.mono HB.out.size))
 have HX1 := hid (HX.out.kept hb1)
 have HRS := hid (RSmp.mk ⟨vs,ho1,hn1⟩ : RSmp w1 w0.heap.size m Ao E co (ordsL L m E))
 clear hb1 ho1 hn1 c5 c7 c12 c14 cl
 have m0 := HX1.out
 have x0 : w1.cell? ⟨w.heap.size + 1,0,none⟩ = some (.int .i64 0) := m0.cell 0
 have x1 : w1.cell? ⟨w.heap.size + 1,1,none⟩ = some (.int .i64 0) := m0.cell 1
 have x2 : w1.cell? ⟨w.heap.size + 1,2,none⟩ = some (.int .i64 0) := m0.cell 2
 have x3 : w1.cell? ⟨w.heap.size + 1,3,none⟩ = some (.slice none 0 0) := m0.cell 3
 have f0 := m0.frozen 0
 have f1 := m0.frozen 1
 have f2 := m0.frozen 2
 have f3 := m0.frozen 3
 have lx := m0.lt
 clear m0
 go_wp2_with fail
 have hst := set4q HX1.out (.int .i64 m) (.int .i64 b) (.int .i64 st) (.slice Ao E co)
 have hlt0 := HX.out.lt
 refine bodyPost_ret (v := rsmp m b st Ao E co) (by simp [results,Tryz.results28,go_sem,x0,x1,x2,x3,lx]) rfl ⟨Ao,co,rfl,?_,?_⟩
 ·exact ((HRS.out.far hst.1 hlt0).below ((Below.refl _ _).alloc (Nat.le_refl _) _)).lower HB.out.size
 ·exact (below_gr HB1.out HB1.out.size hst.1 (by omega)).alloc (by have := HB1.out.size; have := hst.1.size; omega) _
def sumX (K : MC) (P : List Int) (j : Nat) : List Int -> Int
 | [] => 0
 | i :: l => (exG K P i).getD j 0 + sumX K P j l
theorem addAt_getD {xs ys : List Int} {n j : Nat} (hj : j < xs.length) (hn : j < n) : (addAt xs 0 ys n).getD j 0 = wrap64 (xs.getD j 0 + ys.getD j 0) := by
 rw [List.getD_eq_getElem?_getD,addAt_get,List.getElem?_eq_getElem hj,Option.map_some,Option.getD_some,if_pos (by omega),Nat.sub_zero]
 rw [List.getD_eq_getElem?_getD (l := xs),List.getElem?_eq_getElem hj,Option.getD_some]
theorem accG_getD {K : MC} {P : List Int} {j : Nat} (hj : j < K.NP) : ∀ (l G : List Int),G.length = K.NP -> AllIn G -> (accG K P G l).getD j 0 = wrap64 (G.getD j 0 + sumX K P j l)
 | [],G,hl,hi => by
  have := getD_in hi j
  rw [sumX,Int.add_zero]
  exact (wrap64_id _ this.1 this.2).symm
 | i :: l,G,hl,hi => by
  have h1 : AllIn (addAt G 0 (exG K P i) K.NP) := by
   have := accG_in (K := K) (P := P) hi [i]
   exact this
  have e : accG K P G (i :: l) = accG K P (addAt G 0 (exG K P i) K.NP) l := rfl
  rw [e,accG_getD hj l _ (by rw [addAt_length,hl]) h1,addAt_getD (by omega) hj,wrap_add,sumX]
  congr 1
  omega
theorem accG_add {K : MC} {P S : List Int} (hl : S.length = K.NP) (hi : AllIn S) (l : List Int) : addAt S 0 (accG K P (zeros K.NP) l) K.NP = accG K P S l := by
 have hz : AllIn (zeros K.NP) := by
  intro x hx
  obtain rfl := List.eq_of_mem_replicate hx
  exact ⟨by decide,by decide⟩
 apply List.ext_getElem?
 intro j
 by_cases hj : j < K.NP
 ·have a1 : j < (addAt S 0 (accG K P (zeros K.NP) l) K.NP).length := by rw [addAt_length,hl]; exact hj
  have a2 : j < (accG K P S l).length := by rw [accG_length,hl]; exact hj
  have e := addAt_getD (ys := accG K P (zeros K.NP) l) (n := K.NP) (show j < S.length by omega) hj
  rw [accG_getD hj l (zeros K.NP) (by simp) hz,wrap_addr] at e
  have e2 := accG_getD (P := P) hj l S hl hi
  have e3 : (zeros K.NP).getD j 0 = 0 := by simp [zeros,hj]
  rw [e3,Int.zero_add,<- e2] at e
  rw [List.getElem?_eq_getElem a1,List.getElem?_eq_getElem a2]
  rw [List.getD_eq_getElem?_getD,List.getD_eq_getElem?_getD,List.getElem?_eq_getElem a1,List.getElem?_eq_getElem a2] at e
  exact congrArg some e
 ·rw [List.getElem?_eq_none (by rw [addAt_length,hl]; omega),List.getElem?_eq_none (by rw [accG_length,hl]; omega)]
theorem accG_append (K : MC) (P G a b : List Int) : accG K P G (a ++ b) = accG K P (accG K P G a) b := by simp [accG]
end
end Go.Proofs.YtkmaeipoaoikpaaGreat
