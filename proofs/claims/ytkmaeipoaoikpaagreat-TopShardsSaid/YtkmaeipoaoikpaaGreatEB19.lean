/- PlanItems2, PlanNew, PlanB, Sgd3, FixpSums1. -/
import Derived.Test.YtkmaeipoaoikpaaGreatEB05
import Derived.Test.YtkmaeipoaoikpaaGreatEB07
import Derived.Test.YtkmaeipoaoikpaaGreatEB18
namespace Go.Proofs.YtkmaeipoaoikpaaGreat
set_option linter.all false
set_option maxRecDepth 100000
set_option maxHeartbeats 4000000
open Lib (hid)
section
open Go.RowKit
theorem addP_any (kind k t : Int) (base gl : Nat) (L : List RItem) (w : World) (hst : ItSt base gl t L w) (hL : L.length <= 1000000000) (hbase : base <= w.heap.size) :
  Calls Tryz.prog 184 #[.pointer (some ⟨gl,0,none⟩),.int .i64 kind,.int .i64 k,.agg #[.bool false,.bool false,.int .i64 0,.int .i64 0,.int .i64 0,.int .i64 0,.int .i64 0,.int .i64 0,.int .i64 0]] w (AddI base gl t (L ++ [plainI kind t k]) w) :=
 addI_any kind k t zeroA base gl L w hst hL hbase
end
section
open Go.RowKit
variable (pc : PlC) (c : Cfg) (A : Option Addr) (n cap : Nat) (Ab : Option Addr) (cb : Nat) (Ag : Option Addr) (cg : Nat) (x t : Int) (w : World)
theorem items20_any (hp : pc.Ok) (hwk : c.wk = pc.m) (hch : c.ch = pc.ch) (hmi : c.mi = pc.mi)
  (hb : Rd w 2 Ab pc.nb (rv pc.bks)) (hg : Rd w 2 Ag (cnt pc.nb pc.wi) (rv pc.grps)) :
  Calls Tryz.prog 110 #[setV A n cap c Ab pc.nb cb Ag (cnt pc.nb pc.wi) cg,.int .i64 x,.int .i64 t] w (OwnRet w 222 12 (pc.itemsI x t).length (itemsV (pc.itemsI x t))) := by
 obtain ⟨base,hbase⟩ : ∃ base,w.heap.size = base := ⟨_,rfl⟩
 have hbb : ∀ b o,Ab = some ⟨b,o,none⟩ -> b < base := fun b o e => by rw [<- hbase]; exact hb.lt b o e (PlC.nb_pos hp)
 obtain ⟨w0,hw0⟩ : ∃ w0,(w.alloc (.cells (setC A n cap c Ab pc.nb cb Ag (cnt pc.nb pc.wi) cg) 236)).alloc (.cells #[.int .i64 t,.slice none 0 0] 326) = w0 := ⟨_,rfl⟩
 have hB0 : Below w.heap.size w w0 := by rw [<- hw0]; exact ((Below.refl _ _).alloc (Nat.le_refl _) _).alloc (by simp) _
 have hS0 : Blk w0 w.heap.size 236 (setC A n cap c Ab pc.nb cb Ag (cnt pc.nb pc.wi) cg) := by rw [<- hw0]; exact (Blk.new _ _ _).alloc _
 have hL0 : Blk w0 (w.heap.size + 1) 326 #[.int .i64 t,.slice none 0 0] := by rw [<- hw0]; exact Blk.new' _ _ (by simp)
 have HR0 := hid (hb.below hB0)
 have HGR0 := hid (hg.below hB0)
 have HGL := hid (hg.lt)
 have hns : base <= w0.heap.size := by rw [<- hbase]; exact hB0.size
 have HRo := hid (fun (lo hi : Nat) (L : List RItem) (W : World) h1 h2 h3 h4 h5 h6 => rounds20_any pc c A n cap Ab cb Ag (cnt pc.nb pc.wi) cg x t lo hi base (base + 1) L W hp hwk hch h1 h2 h3 h4 h5 h6 hbb)
 have HST0 : Hid (ItSt base (base + 1) t [] w0) := hid ⟨none,0,by rw [<- hbase]; exact hL0,by simpa [itemsV_nil] using World.ownsRow_nil w0 base 222 12,by omega⟩
 obtain ⟨sh,ra,mo,wk,ba,mi,st,bu,ch,wi,ca⟩ := c
 simp only at hwk hch hmi
 subst hwk hch hmi
 have hi2 := hp.i2
 have hnb2 := PlC.nb_le hp
 have HGI := hid (fun (k : Nat) (a b : Int) (h : pc.grps[k]? = some (a,b)) => PlC.grps_in h)
 have HGS := hid (fun (k : Nat) (a b : Int) (h : pc.grps[k]? = some (a,b)) => pc.grpsI_succ x t k (a,b) h)
 have HGE := hid (fun (k : Nat) (h : k <= cnt pc.nb pc.wi) => pc.grpsI_le hp x t k h)
 have HRL := hid (fun (lo k : Nat) (h : k <= 60) => pc.groupI_le hp x t lo k h)
 have HIT : Hid (pc.itemsI x t = rangeI 1 t 0 pc.mi ++ pc.grpsI x t (cnt pc.nb pc.wi) ++ [plainI 6 t 0]) := hid rfl
 have hng : cnt pc.nb pc.wi <= 60 := Nat.le_trans (cnt_le _ _) hnb2
 have HGLen := hid pc.grps_length
 obtain ⟨ng,hngd⟩ : ∃ ng,cnt pc.nb pc.wi = ng := ⟨_,rfl⟩
 obtain ⟨m,hm⟩ : ∃ m,pc.m = m := ⟨_,rfl⟩
 obtain ⟨chv,hchv⟩ : ∃ ch,pc.ch = ch := ⟨_,rfl⟩
 obtain ⟨mi,hmi⟩ : ∃ mi,pc.mi = mi := ⟨_,rfl⟩
 obtain ⟨nb,hnb⟩ : ∃ nb,pc.nb = nb := ⟨_,rfl⟩
 rw [hngd] at hS0 HGR0 HGL HRo HGE HIT hng HGLen hw0
 rw [hnb] at hS0 HR0 HRo hnb2 hw0 HGI
 rw [hm] at hS0 HRo hw0
 rw [hchv] at hS0 HRo hw0
 rw [hmi] at hS0 HRo hi2 HIT hw0
 rw [hngd,hnb,hm,hchv,hmi]
 have HS0 := hid hS0
 have HB0 := hid hB0
 have HW0 := hid hw0
 have c6 : w0.cell? ⟨w.heap.size,6,none⟩ = some (.int .i64 mi) := hS0.cell 6
 have ls := hS0.lt
 have HBB := hid hbb
 have HM := hid hm
 clear hb hg hngd hm hchv hmi hnb hS0 hL0 hB0 hw0 hbb
 go_enter Tryz.func110,Tryz.ntmps110
 go_wp2_with fail
 rw [HW0.out]
 rw [hbase] at HS0
 clear c6 ls HW0
 go_loopw [22] (fun v wr => ∃ i : Nat,i <= mi /\ v = .int .i64 i /\ ItSt base (base + 1) t (rangeI 1 t 0 i) wr /\ KI base w0 wr) (fun v _ => mi - (intOf v).toNat)
 case atStart => exact ⟨0,by omega,rfl,by simpa [rangeI] using HST0.out,KI.refl _ _⟩
 case round =>
  obtain ⟨i,hi,rfl,hst,hk⟩ := hrel
  by_cases hlt : i < mi
  ·as_aux_lemma =>
    have i1 : (i : Int) < (mi : Int) := by omega
    have HAD := hid (addP_any 1 i t base (base + 1) _ wr hst (by rw [rangeI_length]; omega) (Nat.le_trans hns hk.2.size))
    have HK := hid hk
    clear hst hk
    go_wp2_with fail
    ((with_reducible refine HAD.out.mono ?_); rintro e w1 ⟨rfl,hst1,hk1⟩)
    have HST1 := hid hst1
    have HK1 := hid (HK.out.trans hk1)
    clear hst1 hk1 HAD
    go_wp2_with fail
    go_roundw
    case rel => exact ⟨i + 1,by omega,by go_num,by rw [rangeI_succ,Nat.zero_add]; exact HST1.out,HK1.out⟩
    case measure => simp [intOf]; omega
  ·obtain rfl : i = mi := by omega
   have HST := hid hst
   have HK := hid hk
   have HSb := hid (hk.blk HS0.out (by decide) (by decide))
   have c2 : wr.cell? ⟨base,13,none⟩ = some (.slice Ag ng cg) := HSb.out.cell 13
   have lsb := HSb.out.lt
   clear hst hk
   go_wp2_with fail
   clear c2 lsb HSb
   obtain ⟨wo,hwo⟩ : ∃ wo : World,wo = wr := ⟨_,rfl⟩
   subst hwo
   go_loopw [33] (fun v wr => ∃ k : Nat,k <= ng /\ v = .int .i64 k /\ ItSt base (base + 1) t (rangeI 1 t 0 i ++ pc.grpsI x t k) wr /\ KI base w0 wr) (fun v _ => ng - (intOf v).toNat)
   case atStart => exact ⟨0,by omega,rfl,by simpa [PlC.grpsI] using HST.out,HK.out⟩
   case round =>
    obtain ⟨k,hk1,rfl,hst,hk⟩ := hrel
    by_cases hlt2 : k < ng
    ·as_aux_lemma =>
      have HGE1 := HGE.out k (by omega)
      obtain ⟨L1,hL1⟩ : ∃ L1,rangeI 1 t 0 i ++ pc.grpsI x t k = L1 := ⟨_,rfl⟩
      have hL1l : L1.length <= 110000000 := by rw [<- hL1,List.length_append,rangeI_length]; omega
      have HL1 := hid hL1
      rw [hL1] at hst
      have HST := hid hst
      have HK := hid hk
      have hGR := HGR0.out.base hk.2 (fun b o e => by rw [<- hbase]; exact HGL.out b o e (by omega))
      obtain ⟨g,o,a,b,rfl,hg,hab,d0,d1⟩ := rd_at HGLen.out hGR hlt2
      have hin := HGI.out k a b hab
      have HGSk := HGS.out k a b hab
      obtain ⟨lo,rfl⟩ := Int.eq_ofNat_of_zero_le hin.1
      obtain ⟨hi,rfl⟩ := Int.eq_ofNat_of_zero_le (show 0 <= b by omega)
      have hlh : lo <= hi := by omega
      have HHN : Hid (hi <= nb) := hid (by omega)
      have h60 : hi <= 60 := by have := HHN.out; omega
      have HG : Hid (pc.grpsI x t (k + 1) = pc.grpsI x t k ++ (rangeI 2 t lo (hi - lo) ++ pc.rndI x t lo (hi - lo) (2 * (m - 1)) ++ rangeI 5 t lo (hi - lo))) := hid (by
       rw [HGSk,<- HM.out]
       simp only [PlC.groupG,PlC.groupI,Int.toNat_natCast,show ((hi : Int) - (lo : Int)).toNat = hi - lo by omega])
      have hgl := HRL.out lo (hi - lo) (by omega)
      simp only [PlC.groupI,List.length_append,rangeI_length] at hgl
      rw [HM.out] at hgl
      have HGLL := hid hgl
      have hz : base <= wr.heap.size := Nat.le_trans hns hk.2.size
      have HNB : Hid (∀ W,wr.alloc (.cells #[.int .i64 lo,.int .i64 hi] 218) = W -> Below wr.heap.size wr W /\ Blk W wr.heap.size 218 #[.int .i64 lo,.int .i64 hi]) := hid (by
       rintro W rfl
       exact ⟨(Below.refl _ _).alloc (Nat.le_refl _) _,Blk.new _ _ _⟩)
      have i1 : (k : Int) < (ng : Int) := by omega
      have i2 : (0 : Int) <= (k : Int) := by omega
      have lg : g < wr.heap.size := hg
      clear hst hk hGR hab hin HGSk hL1 hgl
      go_wp2_with fail
      obtain ⟨w1,hw1⟩ : ∃ w1,wr.alloc (.cells #[.int .i64 lo,.int .i64 hi] 218) = w1 := ⟨_,rfl⟩
      obtain ⟨hb1,hr1⟩ := HNB.out _ hw1
      rw [hw1]
      have HST1 := hid (HST.out.call hb1)
      have HK1 := hid (HK.out.trans (KI.call hb1 hz))
      have HR1 := hid hr1
      have hz1 : base <= w1.heap.size := Nat.le_trans hz hb1.size
      obtain ⟨gb,hgb⟩ : ∃ gb,wr.heap.size = gb := ⟨_,rfl⟩
      rw [hgb] at HR1 ⊢
      clear hgb hw1 hb1 hr1 HNB d0 d1 lg HST HK
      go_loopw [12] (fun v wr => ∃ j : Nat,lo <= j /\ j <= hi /\ v = .int .i64 j /\ ItSt base (base + 1) t (L1 ++ rangeI 2 t lo (j - lo)) wr /\ KI base w1 wr) (fun v _ => hi - (intOf v).toNat)
      case atStart => exact ⟨lo,by omega,hlh,rfl,by rw [Nat.sub_self]; simpa [rangeI] using HST1.out,KI.refl _ _⟩
      case round =>
       obtain ⟨j,hj1,hj2,rfl,hst,hk⟩ := hrel
       have HRj := hid (hk.blk HR1.out (by decide) (by decide))
       have r1 : wr.cell? ⟨gb,1,none⟩ = some (.int .i64 hi) := HRj.out.cell 1
       have lgb := HRj.out.lt
       by_cases hjlt : j < hi
       ·as_aux_lemma =>
         have i3 : (j : Int) < (hi : Int) := by omega
         have HAD := hid (addP_any 2 j t base (base + 1) _ wr hst (by rw [List.length_append,rangeI_length]; omega) (Nat.le_trans hz1 hk.2.size))
         have HK := hid hk
         clear hst hk HRj
         go_wp2_with fail
         ((with_reducible refine HAD.out.mono ?_); rintro e w2 ⟨rfl,hst1,hk1⟩)
         have HST1 := hid hst1
         have HK1 := hid (HK.out.trans hk1)
         clear hst1 hk1 HAD
         go_wp2_with fail
         go_roundw
         case rel => exact ⟨j + 1,by omega,by omega,by go_num,by rw [show j + 1 - lo = (j - lo) + 1 by omega,rangeI_succ,show lo + (j - lo) = j by omega,<- List.append_assoc]; exact HST1.out,HK1.out⟩
         case measure => simp [intOf]; omega
       ·obtain rfl : j = hi := by omega
        as_aux_lemma =>
         have HST := hid hst
         have HK := hid hk
         have hSb := (HK1.out.trans hk).blk HS0.out (by decide) (by decide)
         have r0 : wr.cell? ⟨gb,0,none⟩ = some (.int .i64 lo) := HRj.out.cell 0
         have s0 : wr.cell? ⟨base,0,none⟩ = some (.slice A n cap) := hSb.cell 0
         have s1 : wr.cell? ⟨base,1,none⟩ = some (.int .i64 sh) := hSb.cell 1
         have s2 : wr.cell? ⟨base,2,none⟩ = some (.int .i64 ra) := hSb.cell 2
         have s3 : wr.cell? ⟨base,3,none⟩ = some (.int .i64 mo) := hSb.cell 3
         have s4 : wr.cell? ⟨base,4,none⟩ = some (.int .i64 m) := hSb.cell 4
         have s5 : wr.cell? ⟨base,5,none⟩ = some (.int .i64 ba) := hSb.cell 5
         have s6 : wr.cell? ⟨base,6,none⟩ = some (.int .i64 i) := hSb.cell 6
         have s7 : wr.cell? ⟨base,7,none⟩ = some (.int .i64 st) := hSb.cell 7
         have s8 : wr.cell? ⟨base,8,none⟩ = some (.int .i64 bu) := hSb.cell 8
         have s9 : wr.cell? ⟨base,9,none⟩ = some (.int .i64 chv) := hSb.cell 9
         have s10 : wr.cell? ⟨base,10,none⟩ = some (.int .i64 wi) := hSb.cell 10
         have s11 : wr.cell? ⟨base,11,none⟩ = some (.int .i64 ca) := hSb.cell 11
         have s12 : wr.cell? ⟨base,12,none⟩ = some (.slice Ab nb cb) := hSb.cell 12
         have s13 : wr.cell? ⟨base,13,none⟩ = some (.slice (some ⟨g,o,none⟩) ng cg) := hSb.cell 13
         have lsb := hSb.lt
         have HRW := hid (HRo.out lo j _ wr hlh HHN.out hst (by rw [List.length_append,rangeI_length]; omega) (Nat.le_trans hz1 hk.2.size) (HR0.out.base (HK1.out.trans hk).2 HBB.out))
         have HK2 := hid (HK1.out.trans HK.out)
         clear hst hk hSb
         go_wp2_with fail
         ((with_reducible refine HRW.out.mono ?_); rintro e w2 ⟨rfl,hst2,hk2⟩)
         clear s0 s1 s2 s3 s4 s5 s6 s7 s8 s9 s10 s11 s12 s13 lsb r0 r1 lgb
         have HST2 := hid hst2
         have HK3 := hid (HK2.out.trans hk2)
         have HR2 := hid (KI.blk hk2 HRj.out (by decide) (by decide))
         have r0 : w2.cell? ⟨gb,0,none⟩ = some (.int .i64 lo) := HR2.out.cell 0
         have lgb := HR2.out.lt
         have hz2 : base <= w2.heap.size := Nat.le_trans hns HK3.out.2.size
         obtain ⟨L2,hL2⟩ : ∃ L2,L1 ++ rangeI 2 t lo (j - lo) ++ pc.rndI x t lo (j - lo) (2 * (m - 1)) = L2 := ⟨_,rfl⟩
         have hL2l : L2.length <= 120000000 := by rw [<- hL2,List.length_append,List.length_append,rangeI_length]; have := HGLL.out; omega
         rw [hL2] at HST2
         have HL2 := hid hL2
         clear hst2 hk2 hL2 HRW HST HRj
         go_wp2_with fail
         clear r0 lgb
         go_loopw [13] (fun v wr => ∃ q : Nat,lo <= q /\ q <= j /\ v = .int .i64 q /\ ItSt base (base + 1) t (L2 ++ rangeI 5 t lo (q - lo)) wr /\ KI base w2 wr) (fun v _ => j - (intOf v).toNat)
         case atStart => exact ⟨lo,by omega,hlh,rfl,by rw [Nat.sub_self]; simpa [rangeI] using HST2.out,KI.refl _ _⟩
         case round =>
          obtain ⟨q,hq1,hq2,rfl,hst,hk⟩ := hrel
          have HRj := hid (hk.blk HR2.out (by decide) (by decide))
          have r1 : wr.cell? ⟨gb,1,none⟩ = some (.int .i64 j) := HRj.out.cell 1
          have lgb := HRj.out.lt
          by_cases hqlt : q < j
          ·as_aux_lemma =>
            have i3 : (q : Int) < (j : Int) := by omega
            have HAD := hid (addP_any 5 q t base (base + 1) _ wr hst (by rw [List.length_append,rangeI_length]; omega) (Nat.le_trans hz2 hk.2.size))
            have HK := hid hk
            clear hst hk HRj
            go_wp2_with fail
            ((with_reducible refine HAD.out.mono ?_); rintro e w2 ⟨rfl,hst1,hk1⟩)
            have HST1 := hid hst1
            have HK1 := hid (HK.out.trans hk1)
            clear hst1 hk1 HAD
            go_wp2_with fail
            go_roundw
            case rel => exact ⟨q + 1,by omega,by omega,by go_num,by rw [show q + 1 - lo = (q - lo) + 1 by omega,rangeI_succ,show lo + (q - lo) = q by omega,<- List.append_assoc]; exact HST1.out,HK1.out⟩
            case measure => simp [intOf]; omega
          ·obtain rfl : q = j := by omega
           have HST := hid hst
           have HK := hid hk
           clear hst hk HRj
           go_wp2_with fail
           go_roundw
           case rel => exact ⟨k + 1,by omega,by go_num,by rw [HG.out,<- List.append_assoc,<- List.append_assoc,<- List.append_assoc,HL1.out,HL2.out]; exact HST.out,HK3.out.trans HK.out⟩
           case measure => simp [intOf]; omega
    ·obtain rfl : k = ng := by omega
     as_aux_lemma =>
      have HAD := hid (addP_any 6 0 t base (base + 1) _ wr hst (by have := HGE.out k (Nat.le_refl _); rw [List.length_append,rangeI_length]; omega) (Nat.le_trans hns hk.2.size))
      have HK := hid hk
      clear hst hk
      go_wp2_with fail
      ((with_reducible refine HAD.out.mono ?_); rintro e w1 ⟨rfl,hst1,hk1⟩)
      obtain ⟨A0,c0,hbl,hown,hbg⟩ := hst1
      rw [<- HIT.out] at hbl hown
      have HOW := hid hown
      have HK1 := hid (HK.out.trans hk1)
      have e1 : w1.cell? ⟨base + 1,1,none⟩ = some (.slice A0 (pc.itemsI x t).length c0) := hbl.cell 1
      have ll := hbl.lt
      obtain ⟨nI,hnI⟩ : ∃ nI,(pc.itemsI x t).length = nI := ⟨_,rfl⟩
      rw [hnI] at e1 HOW
      have HNI := hid hnI
      clear hbl hown hk1 hnI HAD HK
      go_wp2_with fail
      go_ret
      rw [HNI.out]
      exact ⟨A0,c0,rfl,by rw [hbase]; exact HOW.out,HB0.out.trans (by rw [hbase]; exact HK1.out.2)⟩
end
section
open Go.RowKit
def PlC.lensL (pc : PlC) : List Int := (List.range pc.m).map fun (i : Nat) => ((pc.itemsI (i : Int) 0).length : Int)
theorem PlC.lensL_length (pc : PlC) : pc.lensL.length = pc.m := by simp [PlC.lensL]
theorem PlC.lensL_at (pc : PlC) (k : Nat) (h : k < pc.m) : pc.lensL[k]? = some ((pc.itemsI (k : Int) 0).length : Int) := by simp [PlC.lensL,h]
abbrev planC (A : Option Addr) (n cap : Nat) (c : Cfg) (Ab : Option Addr) (nb cb : Nat) (Ag : Option Addr) (ng cg : Nat) (lv : Value) : Array Value := #[.slice A n cap,.int .i64 c.sh,.int .i64 c.ra,.int .i64 c.mo,.int .i64 c.wk,.int .i64 c.ba,.int .i64 c.mi,.int .i64 c.st,.int .i64 c.bu,.int .i64 c.ch,.int .i64 c.wi,.int .i64 c.ca,.slice Ab nb cb,.slice Ag ng cg,lv]
def PlanAt (w : World) (b : Nat) (pc : PlC) (c : Cfg) (A : Option Addr) (n cap : Nat) : Prop := ∃ Ab cb Ag cg Al cl,Blk w b 238 (planC A n cap c Ab pc.nb cb Ag (cnt pc.nb pc.wi) cg (.slice Al pc.m cl)) /\
 Rd w 2 Ab pc.nb (rv pc.bks) /\ Rd w 2 Ag (cnt pc.nb pc.wi) (rv pc.grps) /\ Rd w 1 Al pc.m (iv pc.lensL) /\ pc.nb <= cb
theorem PlanAt.kept {w w' : World} {b : Nat} {pc : PlC} {c : Cfg} {A : Option Addr} {n cap : Nat} (h : PlanAt w b pc c A n cap) (hb : Below w.heap.size w w') : PlanAt w' b pc c A n cap := by
 obtain ⟨Ab,cb,Ag,cg,Al,cl,h1,h2,h3,h4,h5⟩ := h
 exact ⟨Ab,cb,Ag,cg,Al,cl,h1.kept hb,h2.below hb,h3.below hb,h4.below hb,h5⟩
theorem pset14 {w : World} {g : Nat} {t : TypeId} {a0 a1 a2 a3 a4 a5 a6 a7 a8 a9 a10 a11 a12 a13 a14 : Value} (h : Blk w g t #[a0,a1,a2,a3,a4,a5,a6,a7,a8,a9,a10,a11,a12,a13,a14]) (v : Value) :
  w.grownBy (w.setCell ⟨g,14,none⟩ v) (some g) /\ Blk (w.setCell ⟨g,14,none⟩ v) g t #[a0,a1,a2,a3,a4,a5,a6,a7,a8,a9,a10,a11,a12,a13,v] :=
 ⟨gr_set (p := ⟨g,14,none⟩) (World.grownBy.refl w _) (.inl rfl) v,by simpa using h.set_ 14 v⟩
theorem one_cell (x : Int) : ∀ u ∈ (#[Value.int .i64 x] : Array Value).toList,u.oneCell' = true := by
 intro u hu
 simp at hu
 subst hu
 rfl
def PlanAtB (w : World) (base b : Nat) (pc : PlC) (c : Cfg) (A : Option Addr) (n cap : Nat) : Prop := ∃ Ab cb Ag cg Al cl,base <= b /\ Blk w b 238 (planC A n cap c Ab pc.nb cb Ag (cnt pc.nb pc.wi) cg (.slice Al pc.m cl)) /\
 w.ownsRow base 218 2 (.slice Ab pc.nb cb) pc.nb (rv pc.bks) /\ w.ownsRow base 218 2 (.slice Ag (cnt pc.nb pc.wi) cg) (cnt pc.nb pc.wi) (rv pc.grps) /\ w.ownsRow base 3 1 (.slice Al pc.m cl) pc.m (iv pc.lensL)
theorem PlanAtB.plan {w : World} {base b : Nat} {pc : PlC} {c : Cfg} {A : Option Addr} {n cap : Nat} (h : PlanAtB w base b pc c A n cap) : PlanAt w b pc c A n cap := by
 obtain ⟨Ab,cb,Ag,cg,Al,cl,h0,h1,h2,h3,h4⟩ := h
 refine ⟨Ab,cb,Ag,cg,Al,cl,h1,Rd.of_own h2,Rd.of_own h3,Rd.of_own h4,?_⟩
 obtain ⟨A',cap',e',h',_⟩ := own_form h2
 injection e' with _ _ e'
 omega
theorem PlanAtB.mid {w w' : World} {base b lo : Nat} {pc : PlC} {c : Cfg} {A : Option Addr} {n cap : Nat} (h : PlanAtB w base b pc c A n cap) (hm : Mid lo w.heap.size w w') (hl : lo <= base) : PlanAtB w' base b pc c A n cap := by
 obtain ⟨Ab,cb,Ag,cg,Al,cl,h0,h1,h2,h3,h4⟩ := h
 exact ⟨Ab,cb,Ag,cg,Al,cl,h0,h1.mid hm (by omega),own_mid h2 hm hl,own_mid h3 hm hl,own_mid h4 hm hl⟩
def NewRetB (pc : PlC) (c : Cfg) (A : Option Addr) (n cap : Nat) (w : World) (e : Ending) (w' : World) : Prop := ∃ b,e = .returned (.tuple #[.pointer (some ⟨b,0,none⟩),.bool true]) /\ PlanAtB w' w.heap.size b pc c A n cap /\ Below w.heap.size w w'
end
section
open Go.RowKit
variable (A : Option Addr) (n cap : Nat) (l : List Int) (c : Cfg) (P : Int) (w : World)
theorem planNewB_good (pc : PlC) (hp : pc.Ok) (hl : l.length = n) (h : Rd w 1 A n (iv l)) (hcap : n <= cap) (hn : n <= 1000) (hok : okCfg l c = true) (hwk : c.wk = pc.m) (hch : c.ch = pc.ch) (hmi : c.mi = pc.mi) (hwi : c.wi = pc.wi) (hbu : c.bu = pc.bu) (hP : P = pc.P) :
  Calls Tryz.prog 42 #[cfgV A n cap c,.int .i64 P] w (NewRetB pc c A n cap w) := by
 have HG : Hid (∀ W,w.alloc (.cells (cfgC A n cap c) 24) = W -> Below w.heap.size w W /\ Blk W w.heap.size 24 (cfgC A n cap c)) := hid (by
  rintro W rfl
  exact ⟨(Below.refl _ _).alloc (Nat.le_refl _) _,Blk.new _ _ _⟩)
 have HC := hid (fun W (r : Rd W 1 A n (iv l)) => confCheck_any A n cap l c W hl r hcap hn)
 have HR := hid h
 have HBk := hid (fun W => buckets_any pc.P pc.bu W hp.p1 (by have := hp.p2; omega) hp.b1 (by have := hp.b2; omega))
 have HGr := hid (fun W => groups_any pc.nb pc.wi W (PlC.nb_pos hp) (by have := PlC.nb_le hp; omega) hp.w1 (by have := hp.w2; omega))
 have HIt := hid (fun Ab cb Ag cg (x : Int) W h1 h2 => items20_any pc c A n cap Ab cb Ag cg x 0 W hp hwk hch hmi h1 h2)
 have HLe := hid (fun x : Int => PlC.itemsI_le hp x 0)
 have HP2 := hid hp.p2
 have HP1 := hid hp.p1
 have hm8 := hp.m2
 have HOK := hid hok
 have HLA := hid (fun k (h : k < pc.m) => pc.lensL_at k h)
 have HLL := hid pc.lensL_length
 obtain ⟨sh,ra,mo,wk,ba,mi,st,bu,ch,wi,ca⟩ := c
 simp only at hwk hch hmi hwi hbu
 subst hwk hch hmi hwi hbu hP
 obtain ⟨m,hm⟩ : ∃ m,pc.m = m := ⟨_,rfl⟩
 obtain ⟨nb,hnb⟩ : ∃ nb,pc.nb = nb := ⟨_,rfl⟩
 obtain ⟨ng,hng⟩ : ∃ ng,cnt pc.nb pc.wi = ng := ⟨_,rfl⟩
 obtain ⟨P,hP⟩ : ∃ P,pc.P = P := ⟨_,rfl⟩
 obtain ⟨bu,hbu⟩ : ∃ P,pc.bu = P := ⟨_,rfl⟩
 obtain ⟨wi,hwi⟩ : ∃ P,pc.wi = P := ⟨_,rfl⟩
 obtain ⟨mi,hmi⟩ : ∃ P,pc.mi = P := ⟨_,rfl⟩
 obtain ⟨ch,hch⟩ : ∃ P,pc.ch = P := ⟨_,rfl⟩
 have eb : bucketsL pc.P pc.bu = pc.bks := rfl
 have eg : blocksL pc.nb pc.wi = pc.grps := rfl
 have en : cnt pc.P pc.bu = pc.nb := rfl
 rw [eb,en] at HBk
 rw [eg] at HGr
 have HPA : Hid (∀ W b Ab cb Ag cg Al cl,w.heap.size <= b -> Blk W b 238 (planC A n cap ⟨sh,ra,mo,m,ba,mi,st,bu,ch,wi,ca⟩ Ab nb cb Ag ng cg (.slice Al m cl)) -> W.ownsRow w.heap.size 218 2 (.slice Ab nb cb) nb (rv pc.bks) -> W.ownsRow w.heap.size 218 2 (.slice Ag ng cg) ng (rv pc.grps) -> W.ownsRow w.heap.size 3 1 (.slice Al m cl) m (iv pc.lensL) -> PlanAtB W w.heap.size b pc ⟨sh,ra,mo,m,ba,mi,st,bu,ch,wi,ca⟩ A n cap) := hid (by
  intro W b Ab cb Ag cg Al cl h0 h1 h2 h3 h4
  subst hm hnb hng
  exact ⟨Ab,cb,Ag,cg,Al,cl,h0,h1,h2,h3,h4⟩)
 rw [hng] at HGr HIt
 rw [hnb] at HBk HIt HGr
 rw [hm] at HIt HLA HLL hm8 HG HC HOK
 rw [hP,hbu] at HBk
 rw [hP] at HP1 HP2
 rw [hwi] at HIt HG HC HGr HOK
 rw [hbu] at HIt HG HC HOK
 rw [hmi] at HIt HG HC HOK
 rw [hch] at HIt HG HC HOK
 rw [hP,hbu,hwi,hmi,hch,hm]
 have hp1 := HP1.out
 have hp2 := HP2.out
 have z1 : decide ((P : Int) < 1) = false := decide_eq_false (by omega)
 have z2 : decide ((1048576 : Int) < (P : Int)) = false := decide_eq_false (by omega)
 clear hl h eb eg en hok hp hP hbu hwi hmi hch hm hnb hng
 go_enter Tryz.func42,Tryz.ntmps42
 go_wp2_with fail
 obtain ⟨w0,hw0⟩ : ∃ w0,w.alloc (.cells (cfgC A n cap ⟨sh,ra,mo,m,ba,mi,st,bu,ch,wi,ca⟩) 24) = w0 := ⟨_,rfl⟩
 obtain ⟨hB,hK⟩ := HG.out _ hw0
 rw [hw0]
 clear hw0 HG
 obtain ⟨bc,hbc⟩ : ∃ bc,w.heap.size = bc := ⟨_,rfl⟩
 rw [hbc] at hK ⊢
 have HBC := hid hbc
 ((with_reducible refine (HC.out _ (HR.out.below hB)).mono ?_); rintro e w1 ⟨cd,rfl,hcd,hb1⟩)
 have h0 : cd = 0 := hcd.2 HOK.out
 subst h0
 have k1 := hK.kept hb1
 have HK1 := hid k1
 have HB1 := hid (hB.trans (hb1.mono hB.size))
 have c8 : w1.cell? ⟨bc,8,none⟩ = some (.int .i64 bu) := k1.cell 8
 have lc := k1.lt
 clear hB hK hb1 hcd HC k1 hbc
 go_wp2_with fail
 ((with_reducible refine (HBk.out _).mono ?_); rintro e w2 ⟨Ab,cb,rfl,hown2,hb2⟩)
 have k2 := HK1.out.kept hb2
 have HK2 := hid k2
 have HB2 := hid (HB1.out.trans (hb2.mono HB1.out.size))
 have HO2 := hid (own_base hown2 HB1.out.size)
 have s0 : w2.cell? ⟨bc,0,none⟩ = some (.slice A n cap) := k2.cell 0
 have s1 : w2.cell? ⟨bc,1,none⟩ = some (.int .i64 sh) := k2.cell 1
 have s2 : w2.cell? ⟨bc,2,none⟩ = some (.int .i64 ra) := k2.cell 2
 have s3 : w2.cell? ⟨bc,3,none⟩ = some (.int .i64 mo) := k2.cell 3
 have s4 : w2.cell? ⟨bc,4,none⟩ = some (.int .i64 m) := k2.cell 4
 have s5 : w2.cell? ⟨bc,5,none⟩ = some (.int .i64 ba) := k2.cell 5
 have s6 : w2.cell? ⟨bc,6,none⟩ = some (.int .i64 mi) := k2.cell 6
 have s7 : w2.cell? ⟨bc,7,none⟩ = some (.int .i64 st) := k2.cell 7
 have s8 : w2.cell? ⟨bc,8,none⟩ = some (.int .i64 bu) := k2.cell 8
 have s9 : w2.cell? ⟨bc,9,none⟩ = some (.int .i64 ch) := k2.cell 9
 have s10 : w2.cell? ⟨bc,10,none⟩ = some (.int .i64 wi) := k2.cell 10
 have s11 : w2.cell? ⟨bc,11,none⟩ = some (.int .i64 ca) := k2.cell 11
 have lc2 := k2.lt
 clear hown2 hb2 k2 c8 lc HB1 HK1
 go_wp2_with fail
 refine wp_region_early (Kept w2) [0,1,2,3,4,5] [6] [7,8,9,10] (by kernel_rfl) (by kernel_rfl) (Kept.start w2) ?_
 simp only [List.filterMap_cons,List.filterMap_nil,List.getElem?_cons_succ,List.getElem?_cons_zero]
 refine early_step (cfgV A n cap ⟨sh,ra,mo,m,ba,mi,st,bu,ch,wi,ca⟩) rfl (fun W hW => ?_) ?_
 ·obtain ⟨hc,-,-⟩ := hW
  go_simp
 go_simp
 refine early_step (.slice Ab nb cb) rfl (fun W hW => ?_) ?_
 ·obtain ⟨hc,-,-⟩ := hW
  go_simp
 go_simp
 refine early_step (.slice Ab nb cb) rfl (fun W hW => ?_) ?_
 ·obtain ⟨hc,-,-⟩ := hW
  go_simp
 go_simp
 refine early_step (.int .i64 nb) rfl (fun W hW => ?_) ?_
 ·obtain ⟨hc,-,-⟩ := hW
  go_simp
 go_simp
 refine early_step (.pointer (some ⟨bc,10,none⟩)) rfl (fun W hW => ?_) ?_
 ·obtain ⟨hc,-,-⟩ := hW
  go_simp
 go_simp
 refine early_step (.int .i64 wi) rfl (fun W hW => ?_) ?_
 ·obtain ⟨hc,-,-⟩ := hW
  go_simp
 go_simp
 change RestW _ _ _ _ _ (_ :: []) _ _
 unfold RestW
 go_wp2_with fail
 ((with_reducible refine (HGr.out _).mono ?_); rintro e w3 ⟨Ag,cg,rfl,hown3,hb3⟩)
 have hb3' : Below w2.heap.size w2 w3 := ((Kept.start w2).call hb3).2.2
 have HO3 := hid (own_base hown3 (show w.heap.size <= _ from HB2.out.size))
 have HO2' := hid (own_below HO2.out hb3')
 have HB3 := hid (HB2.out.trans (hb3'.mono HB2.out.size))
 have HK3 := hid (HK2.out.kept hb3')
 have HKe := hid (Kept.of hb3')
 clear hown3 hb3 hb3' s0 s1 s2 s3 s4 s5 s6 s7 s8 s9 s10 s11 lc2 HO2 HB2 HK2
 go_wp2_with fail
 refine ⟨HKe.out,?_⟩
 unfold RestW
 change wpList _ _ _ (_ :: _ :: _ :: _ :: []) _ _
 have HPB : Hid (∀ W,w3.alloc (.cells (planC A n cap ⟨sh,ra,mo,m,ba,mi,st,bu,ch,wi,ca⟩ Ab nb cb Ag ng cg (.slice none 0 0)) 238) = W -> Below w3.heap.size w3 W /\ Blk W w3.heap.size 238 (planC A n cap ⟨sh,ra,mo,m,ba,mi,st,bu,ch,wi,ca⟩ Ab nb cb Ag ng cg (.slice none 0 0))) := hid (by
  rintro W rfl
  exact ⟨(Below.refl _ _).alloc (Nat.le_refl _) _,Blk.new _ _ _⟩)
 go_wp2_with fail
 refine NoPanic.normal ?_
 obtain ⟨w4,hw4⟩ : ∃ w4,w3.alloc (.cells (planC A n cap ⟨sh,ra,mo,m,ba,mi,st,bu,ch,wi,ca⟩ Ab nb cb Ag ng cg (.slice none 0 0)) 238) = w4 := ⟨_,rfl⟩
 obtain ⟨hb4,hp4⟩ := HPB.out _ hw4
 rw [hw4]
 obtain ⟨bp,hbp⟩ : ∃ bp,w3.heap.size = bp := ⟨_,rfl⟩
 have hwbp : w.heap.size <= bp := by rw [<- hbp]; exact HB3.out.size
 rw [hbp] at hp4 ⊢
 have HP4 := hid hp4
 have HB4 := hid (HB3.out.trans (hb4.mono HB3.out.size))
 have HK4 := hid (HK3.out.kept hb4)
 have HRb4 := hid (own_below HO2'.out hb4)
 have HRg4 := hid (own_below HO3.out hb4)
 have c4 : w4.cell? ⟨bc,4,none⟩ = some (.int .i64 m) := HK4.out.cell 4
 have lc := HK4.out.lt
 have hcb : nb <= cb := by
  obtain ⟨A',cap',e',h',_⟩ := own_form HO2'.out
  injection e' with _ _ e'
  omega
 have hlb := hp4.lt
 clear hw4 hp4 hb4 hbp HPB HO2' HO3 HKe HB3 HK3
 as_aux_lemma =>
  go_wp2_with fail
  clear c4 lc hlb
  go_loopw [36] (fun v wr => ∃ k Al cl,k <= m /\ v = .int .i64 k /\ Blk wr bp 238 (planC A n cap ⟨sh,ra,mo,m,ba,mi,st,bu,ch,wi,ca⟩ Ab nb cb Ag ng cg (.slice Al k cl)) /\ wr.ownsRow w.heap.size 3 1 (.slice Al k cl) k (iv (pc.lensL.take k)) /\ Below w.heap.size w wr /\ wr.ownsRow w.heap.size 218 2 (.slice Ab nb cb) nb (rv pc.bks) /\ wr.ownsRow w.heap.size 218 2 (.slice Ag ng cg) ng (rv pc.grps)) (fun v _ => m - (intOf v).toNat)
  case atStart => exact ⟨0,none,0,by omega,rfl,HP4.out,by simpa [iv] using World.ownsRow_nil w4 w.heap.size 3 1,HB4.out,HRb4.out,HRg4.out⟩
  case round =>
   obtain ⟨k,Al,cl,hk,rfl,hbk,hown,hb,hrb,hrg⟩ := hrel
   by_cases hlt : k < m
   ·as_aux_lemma =>
     have HBK := hid hbk
     have HO := hid hown
     have HB := hid hb
     have HRB := hid hrb
     have HRG := hid hrg
     have HI := hid (fun W h1 h2 => HIt.out Ab cb Ag cg k W h1 h2)
     have hle := HLe.out k
     have HLK := hid (HLA.out k hlt)
     obtain ⟨q,hq⟩ : ∃ q,(pc.itemsI (k : Int) 0).length = q := ⟨_,rfl⟩
     rw [hq] at HI hle HLK
     have hz : w.heap.size <= wr.heap.size := hb.size
     clear hbk hown hb hrb hrg hq
     have i1 : (k : Int) < (m : Int) := by omega
     go_wp2_with fail
     refine wp_region_early (fun W : World => Blk W bp 238 (planC A n cap ⟨sh,ra,mo,m,ba,mi,st,bu,ch,wi,ca⟩ Ab nb cb Ag ng cg (.slice Al k cl))) [0,1,2,3,4,5,6,7,8,9] [10,11,12,13] [14,15,16] (by kernel_rfl) (by kernel_rfl) HBK.out.drew ?_
     simp only [List.filterMap_cons,List.filterMap_nil,List.getElem?_cons_succ,List.getElem?_cons_zero]
     refine early_step (.pointer (some ⟨bp,0,none⟩)) rfl (fun W hW => ?_) ?_
     ·have h14 := hW.cell 14
      have h0 := hW.cell 0
      have h1 := hW.cell 1
      have h2 := hW.cell 2
      have h3 := hW.cell 3
      have h4 := hW.cell 4
      have h5 := hW.cell 5
      have h6 := hW.cell 6
      have h7 := hW.cell 7
      have h8 := hW.cell 8
      have h9 := hW.cell 9
      have h10 := hW.cell 10
      have h11 := hW.cell 11
      have h12 := hW.cell 12
      have h13 := hW.cell 13
      go_simp
     go_simp
     refine early_step (.pointer (some ⟨bp,0,none⟩)) rfl (fun W hW => ?_) ?_
     ·have h14 := hW.cell 14
      have h0 := hW.cell 0
      have h1 := hW.cell 1
      have h2 := hW.cell 2
      have h3 := hW.cell 3
      have h4 := hW.cell 4
      have h5 := hW.cell 5
      have h6 := hW.cell 6
      have h7 := hW.cell 7
      have h8 := hW.cell 8
      have h9 := hW.cell 9
      have h10 := hW.cell 10
      have h11 := hW.cell 11
      have h12 := hW.cell 12
      have h13 := hW.cell 13
      go_simp
     go_simp
     refine early_step (.pointer (some ⟨bp,0,none⟩)) rfl (fun W hW => ?_) ?_
     ·have h14 := hW.cell 14
      have h0 := hW.cell 0
      have h1 := hW.cell 1
      have h2 := hW.cell 2
      have h3 := hW.cell 3
      have h4 := hW.cell 4
      have h5 := hW.cell 5
      have h6 := hW.cell 6
      have h7 := hW.cell 7
      have h8 := hW.cell 8
      have h9 := hW.cell 9
      have h10 := hW.cell 10
      have h11 := hW.cell 11
      have h12 := hW.cell 12
      have h13 := hW.cell 13
      go_simp
     go_simp
     refine early_step (.pointer (some ⟨bp,14,none⟩)) rfl (fun W hW => ?_) ?_
     ·have h14 := hW.cell 14
      have h0 := hW.cell 0
      have h1 := hW.cell 1
      have h2 := hW.cell 2
      have h3 := hW.cell 3
      have h4 := hW.cell 4
      have h5 := hW.cell 5
      have h6 := hW.cell 6
      have h7 := hW.cell 7
      have h8 := hW.cell 8
      have h9 := hW.cell 9
      have h10 := hW.cell 10
      have h11 := hW.cell 11
      have h12 := hW.cell 12
      have h13 := hW.cell 13
      go_simp
     go_simp
     refine early_step (.slice Al k cl) rfl (fun W hW => ?_) ?_
     ·have h14 := hW.cell 14
      have h0 := hW.cell 0
      have h1 := hW.cell 1
      have h2 := hW.cell 2
      have h3 := hW.cell 3
      have h4 := hW.cell 4
      have h5 := hW.cell 5
      have h6 := hW.cell 6
      have h7 := hW.cell 7
      have h8 := hW.cell 8
      have h9 := hW.cell 9
      have h10 := hW.cell 10
      have h11 := hW.cell 11
      have h12 := hW.cell 12
      have h13 := hW.cell 13
      go_simp
     go_simp
     refine early_step (.pointer (some ⟨bp,0,none⟩)) rfl (fun W hW => ?_) ?_
     ·have h14 := hW.cell 14
      have h0 := hW.cell 0
      have h1 := hW.cell 1
      have h2 := hW.cell 2
      have h3 := hW.cell 3
      have h4 := hW.cell 4
      have h5 := hW.cell 5
      have h6 := hW.cell 6
      have h7 := hW.cell 7
      have h8 := hW.cell 8
      have h9 := hW.cell 9
      have h10 := hW.cell 10
      have h11 := hW.cell 11
      have h12 := hW.cell 12
      have h13 := hW.cell 13
      go_simp
     go_simp
     refine early_step (.pointer (some ⟨bp,0,none⟩)) rfl (fun W hW => ?_) ?_
     ·have h14 := hW.cell 14
      have h0 := hW.cell 0
      have h1 := hW.cell 1
      have h2 := hW.cell 2
      have h3 := hW.cell 3
      have h4 := hW.cell 4
      have h5 := hW.cell 5
      have h6 := hW.cell 6
      have h7 := hW.cell 7
      have h8 := hW.cell 8
      have h9 := hW.cell 9
      have h10 := hW.cell 10
      have h11 := hW.cell 11
      have h12 := hW.cell 12
      have h13 := hW.cell 13
      go_simp
     go_simp
     refine early_step (.pointer (some ⟨bp,0,none⟩)) rfl (fun W hW => ?_) ?_
     ·have h14 := hW.cell 14
      have h0 := hW.cell 0
      have h1 := hW.cell 1
      have h2 := hW.cell 2
      have h3 := hW.cell 3
      have h4 := hW.cell 4
      have h5 := hW.cell 5
      have h6 := hW.cell 6
      have h7 := hW.cell 7
      have h8 := hW.cell 8
      have h9 := hW.cell 9
      have h10 := hW.cell 10
      have h11 := hW.cell 11
      have h12 := hW.cell 12
      have h13 := hW.cell 13
      go_simp
     go_simp
     refine early_step (setV A n cap ⟨sh,ra,mo,m,ba,mi,st,bu,ch,wi,ca⟩ Ab nb cb Ag ng cg) rfl (fun W hW => ?_) ?_
     ·have h14 := hW.cell 14
      have h0 := hW.cell 0
      have h1 := hW.cell 1
      have h2 := hW.cell 2
      have h3 := hW.cell 3
      have h4 := hW.cell 4
      have h5 := hW.cell 5
      have h6 := hW.cell 6
      have h7 := hW.cell 7
      have h8 := hW.cell 8
      have h9 := hW.cell 9
      have h10 := hW.cell 10
      have h11 := hW.cell 11
      have h12 := hW.cell 12
      have h13 := hW.cell 13
      go_simp
     go_simp
     refine early_step (.int .i64 k) rfl (fun W hW => ?_) ?_
     ·have h14 := hW.cell 14
      have h0 := hW.cell 0
      have h1 := hW.cell 1
      have h2 := hW.cell 2
      have h3 := hW.cell 3
      have h4 := hW.cell 4
      have h5 := hW.cell 5
      have h6 := hW.cell 6
      have h7 := hW.cell 7
      have h8 := hW.cell 8
      have h9 := hW.cell 9
      have h10 := hW.cell 10
      have h11 := hW.cell 11
      have h12 := hW.cell 12
      have h13 := hW.cell 13
      go_simp
     go_simp
     change RestW _ _ _ _ _ (_ :: _ :: _ :: _ :: []) _ _
     unfold RestW
     go_wp2_with fail
     ((with_reducible refine (HI.out _ (Rd.of_own (own_below HRB.out (Below.refl _ _).drew)) (Rd.of_own (own_below HRG.out (Below.refl _ _).drew))).mono ?_); rintro e w5 ⟨A5,c5,rfl,hown5,hb5⟩)
     have hb5' : Below wr.heap.size wr w5 := ((Kept.start wr).call hb5).2.2
     have HBK5 := hid (HBK.out.kept hb5')
     have HO5 := hid (own_below HO.out hb5')
     have HB5 := hid (HB.out.trans (hb5'.mono hz))
     have HRB5 := hid (own_below HRB.out hb5')
     have HRG5 := hid (own_below HRG.out hb5')
     have HB55 := hid hb5'
     clear hown5 hb5 hb5'
     have hz5 := HB5.out.size
     go_wp2_with fail
     refine ⟨HBK5.out,?_⟩
     unfold RestW
     go_wp2_with fail
     refine ⟨HBK5.out,?_⟩
     unfold RestW
     go_wp2_with fail
     refine ⟨HBK5.out.alloc _,?_⟩
     unfold RestW
     change wpList _ _ _ (_ :: []) _ (w5.alloc (.cells #[.int .i64 q] 3))
     go_wp2_with (at_builtin; go_must (refine wpList_pushL slInt rfl _ _ rfl w.heap.size (.slice Al k cl) k (iv (pc.lensL.take k)) rfl HO5.out #[.int .i64 q] w5.heap.size rfl rfl rfl (one_cell _) (by unfold maxLen; omega) (by omega) hz5 ?_); intro A6 c6 w6 hown6 hb6 hg6 hat6)
     have HBK6 := hid (HBK5.out.other HO5.out hg6 (by decide))
     have HO6 := hid hown6
     have HB6 := hid (HB5.out.trans hb6)
     have HSI := Stay.of_own' (u := 238) HO5.out hg6
     have HRB6 := hid (HSI.own hg6.size HRB5.out (by decide) (by decide))
     have HRG6 := hid (HSI.own hg6.size HRG5.out (by decide) (by decide))
     clear hown6 hb6 hg6 hat6 HSI
     refine ⟨HBK6.out,?_⟩
     unfold RestW
     change wpList _ _ _ (_ :: _ :: _ :: []) _ _
     have v1 : w6.cell? ⟨bp,14,none⟩ = some (.slice Al k cl) := HBK6.out.cell 14
     have f1 := HBK6.out.frozen 14
     have l6 := HBK6.out.lt
     go_wp2_with fail
     refine NoPanic.normal ?_
     have HST := hid (pset14 HBK6.out (.slice A6 (k + 1) c6))
     clear v1 f1
     go_wp2_with fail
     go_roundw
     case rel =>
      refine ⟨k + 1,A6,c6,by omega,by go_num,HST.out.2,?_,below_gr HB6.out HB6.out.size HST.out.1 hwbp,HRB6.out.kept HST.out.1 (.inr (own_blk_ne HRB6.out HBK6.out (by decide))),HRG6.out.kept HST.out.1 (.inr (own_blk_ne HRG6.out HBK6.out (by decide)))⟩
      have hk' : pc.lensL.take (k + 1) = pc.lensL.take k ++ [(q : Int)] := by
       have hlt' : k < pc.lensL.length := by rw [HLL.out]; exact hlt
       rw [take_snoc _ _ hlt']
       have := HLK.out
       rw [List.getElem?_eq_getElem hlt'] at this
       injection this with this
       rw [this]
      rw [hk',show iv (pc.lensL.take k ++ [(q : Int)]) = iv (pc.lensL.take k) ++ [.int .i64 q] by simp [iv]]
      exact HO6.out.kept HST.out.1 (.inr (own_blk_ne HO6.out HBK6.out (by decide)))
     case measure => simp [intOf]; omega
   ·obtain rfl : k = m := by omega
    have HPA1 := hid (HPA.out wr bp Ab cb Ag cg Al cl hwbp hbk hrb hrg (by
     have := hown
     rwa [List.take_of_length_le (by rw [HLL.out]; omega)] at this))
    have HB := hid hb
    clear hbk hown hb hrb hrg
    go_wp2_with fail
    go_ret2
    exact ⟨bp,rfl,HPA1.out,HB.out⟩
end
section
open Go.RowKit
def StRet (w : World) (N M : Nat) (Ps Ms : List Int) (en : Ending) (w' : World) : Prop :=
 ∃ AP cP AM cM,en = .returned (.agg #[.slice AP N cP,.slice AM M cM]) /\ w'.ownsRow w.heap.size 2 1 (.slice AP N cP) N (iv Ps) /\ w'.ownsRow w.heap.size 2 1 (.slice AM M cM) M (iv Ms) /\
  (∀ g h,(Value.slice AP N cP).ownBlock = some g -> (Value.slice AM M cM).ownBlock = some h -> g < h) /\ Below w.heap.size w w'
theorem sgdClone_any (A B : Option Addr) (N M c d : Nat) (Ps Ms : List Int) (w : World) (hPl : Ps.length = N) (hMl : Ms.length = M) (hP : Rd w 1 A N (iv Ps)) (hM : Rd w 1 B M (iv Ms)) (hN : N <= 1000000) (hM' : M <= 1000000) :
  Calls Tryz.prog 45 #[.agg #[.slice A N c,.slice B M d]] w (StRet w N M Ps Ms) := by
 have HPL := hid hPl
 have HML := hid hMl
 have HP := hid hP
 have HM := hid hM
 clear hPl hMl hP hM
 go_enter Tryz.func45,Tryz.ntmps45
 go_wp2_with fail
 obtain ⟨w0,hw0⟩ : ∃ w0,(w.alloc (.cells #[.slice A N c,.slice B M d] 92)).alloc (.cells #[.slice none 0 0,.slice none 0 0] 92) = w0 := ⟨_,rfl⟩
 have k0 : Below w.heap.size w w0 := by rw [<- hw0]; exact ((Below.refl _ _).alloc (Nat.le_refl _) _).alloc (by simp) _
 have hA0 : Blk w0 w.heap.size 92 #[.slice A N c,.slice B M d] := by rw [<- hw0]; exact (Blk.new w _ _).alloc _
 have hR0 : Blk w0 (w.heap.size + 1) 92 #[.slice none 0 0,.slice none 0 0] := by rw [<- hw0]; exact Blk.new' _ _ (by simp)
 rw [hw0]
 clear hw0
 have s0 : (w0.drew.cell? ⟨w.heap.size,0,none⟩ = some (.slice A N c) /\ w0.drew.cell? ⟨w.heap.size,1,none⟩ = some (.slice B M d)) /\ Below w.heap.size w w0.drew := ⟨⟨hA0.cell 0,hA0.cell 1⟩,k0.drew⟩
 have HA0 := hid hA0
 have HR0 := hid hR0
 have HC1 := hid (fun W (hb : Below w.heap.size w W) => vecClone_any A N c Ps W HPL.out (HP.out.below hb) (by omega))
 have HC2 := hid (fun W (hb : Below w.heap.size w W) => vecClone_any B M d Ms W HML.out (HM.out.below hb) (by omega))
 clear hA0 hR0 k0
 go_region_held3 (fun w' => (w'.cell? ⟨w.heap.size,0,none⟩ = some (.slice A N c) /\ w'.cell? ⟨w.heap.size,1,none⟩ = some (.slice B M d)) /\ Below w.heap.size w w') (first | exact s0 | exact s1 | exact s2 | exact s3) (first
  | (go_at_call 107; (with_reducible refine (HC1.out w0.drew s0.2).mono ?_); rintro e w1 ⟨A1,c1,rfl,hown1,hb1⟩; have HA1 := hid (HA0.out.drew.kept hb1); have HR1 := hid (HR0.out.drew.kept hb1); have s1 : (w1.cell? ⟨w.heap.size,0,none⟩ = some (.slice A N c) /\ w1.cell? ⟨w.heap.size,1,none⟩ = some (.slice B M d)) /\ Below w.heap.size w w1 := ⟨⟨HA1.out.cell 0,HA1.out.cell 1⟩,((Kept.of s0.2).call hb1).2.2⟩; have HO1 := hid hown1; clear hown1 hb1)
  | (go_at_call 107; (with_reducible refine (HC2.out w1 s1.2).mono ?_); rintro e w2 ⟨A2,c2,rfl,hown2,hb2⟩; have HA2 := hid (HA1.out.kept hb2); have HR2 := hid (HR1.out.kept hb2); have s2 : (w2.cell? ⟨w.heap.size,0,none⟩ = some (.slice A N c) /\ w2.cell? ⟨w.heap.size,1,none⟩ = some (.slice B M d)) /\ Below w.heap.size w w2 := ⟨⟨HA2.out.cell 0,HA2.out.cell 1⟩,((Kept.of s1.2).call hb2).2.2⟩; have HO2 := hid hown2; have HO12 := hid (own_below HO1.out hb2); have d0 : w2.cell? ⟨w.heap.size + 1,0,none⟩ = some (.slice none 0 0) := HR2.out.cell 0; have d1 : w2.cell? ⟨w.heap.size + 1,1,none⟩ = some (.slice none 0 0) := HR2.out.cell 1; have f0 := HR2.out.frozen 0; have f1 := HR2.out.frozen 1; have s3 : (((w2.setCell ⟨w.heap.size + 1,0,none⟩ (.slice A1 N c1)).setCell ⟨w.heap.size + 1,1,none⟩ (.slice A2 M c2)).cell? ⟨w.heap.size,0,none⟩ = some (.slice A N c) /\ ((w2.setCell ⟨w.heap.size + 1,0,none⟩ (.slice A1 N c1)).setCell ⟨w.heap.size + 1,1,none⟩ (.slice A2 M c2)).cell? ⟨w.heap.size,1,none⟩ = some (.slice B M d)) /\ Below w.heap.size w ((w2.setCell ⟨w.heap.size + 1,0,none⟩ (.slice A1 N c1)).setCell ⟨w.heap.size + 1,1,none⟩ (.slice A2 M c2)) := ⟨⟨(HA2.out.grown (store2' HR2.out _ _).1 (by simp)).cell 0,(HA2.out.grown (store2' HR2.out _ _).1 (by simp)).cell 1⟩,below_gr s2.2 s2.2.size (store2' HR2.out _ _).1 (by omega)⟩; clear hown2 hb2))
 go_wp2
 have hst := store2' HR2.out (.slice A1 N c1) (.slice A2 M c2)
 refine bodyPost_ret (v := .agg #[.slice A1 N c1,.slice A2 M c2]) (by simp [results,Tryz.results45,go_sem,d0,d1]) rfl ⟨A1,c1,A2,c2,rfl,?_,?_,fun g h hg hh => ?_,s3.2⟩
 ·exact own_base (HO12.out.kept hst.1 (.inr (own_blk_ne HO12.out HR2.out (by decide)))) s0.2.size
 ·exact own_base (HO2.out.kept hst.1 (.inr (own_blk_ne HO2.out HR2.out (by decide)))) s1.2.size
 ·have h1 := (HO1.out.lt g hg).2
  have h2 := (HO2.out.lt h hh).1
  omega
theorem slI64b : Sl Tryz.prog 26 2 (.int .i64 0) 1 8 := ⟨Tryz.underlying26,by kernel_rfl,rfl,by omega⟩
theorem clone64_any (A : Option Addr) (n cap : Nat) (l : List Int) (w : World) (hl : l.length = n) (h : Rd w 1 A n (iv l)) (hn : n <= 10000000) :
  Calls Tryz.prog 181 #[.slice A n cap] w (OwnRet w 2 1 n (iv l)) := by
 have HR := hid h
 have HL := hid hl
 have hq := fun (w : World) (a : Option Addr) (n c : Nat) => Lib.run_eql_slice_nil (P := Tryz.prog) w 26 2 a n c 0 0 Tryz.underlying26
 clear h hl
 cases A with
 | none =>
  have hn0 : n = 0 := by
   rcases Nat.eq_zero_or_pos n with h0 | h0
   ·exact h0
   ·obtain ⟨b,o,h,_⟩ := HR.out.2 h0; cases h
  subst hn0
  have hl0 : l = [] := List.eq_nil_of_length_eq_zero HL.out
  subst hl0
  go_enter Tryz.func181,Tryz.ntmps181
  go_wp2
  go_ret
  exact ⟨none,0,rfl,World.ownsRow_nil _ _ _ _,Below.refl _ _⟩
 | some ad =>
  go_enter Tryz.func181,Tryz.ntmps181
  go_wp2_with (at_builtin; go_must (refine wpList_appendAll slI64b rfl _ _ rfl w.heap.size _ 0 [] rfl (World.ownsRow_lit w #[] 0 (Nat.le_refl _) (by unfold maxLen; omega) rfl) (some ad) n cap (iv l) rfl (HR.out.alloc _) (iv_one l) (by unfold maxLen; omega) (by omega) (by simp) ?_); intro A' cap' w1 hown1 hb1)
  go_ret
  exact ⟨A',cap',by simp,by simpa using hown1,((Below.refl _ _).alloc (Nat.le_refl _) _).trans hb1⟩
end
end Go.Proofs.YtkmaeipoaoikpaaGreat
