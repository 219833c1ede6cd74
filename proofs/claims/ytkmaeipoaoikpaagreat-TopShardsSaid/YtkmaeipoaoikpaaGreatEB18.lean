/- PlanAdd, PlanRounds. -/
import Derived.Test.YtkmaeipoaoikpaaGreatEB17
namespace Go.Proofs.YtkmaeipoaoikpaaGreat
set_option linter.all false
set_option maxRecDepth 100000
set_option maxHeartbeats 4000000
open Lib (hid)
section
open Go.RowKit
theorem slItem : Sl Tryz.prog 118 222 (.agg #[.int .i64 0,.int .i64 0,.int .i64 0,.bool false,.bool false,.int .i64 0,.int .i64 0,.int .i64 0,.int .i64 0,.int .i64 0,.int .i64 0,.int .i64 0]) 12 88 := ⟨Tryz.underlying118,by kernel_rfl,rfl,by omega⟩
def ItSt (base gl : Nat) (t : Int) (L : List RItem) (w : World) : Prop := ∃ A0 c0,Blk w gl 326 #[.int .i64 t,.slice A0 L.length c0] /\ w.ownsRow base 222 12 (.slice A0 L.length c0) L.length (itemsV L) /\ base <= gl
abbrev StayI (w w' : World) : Prop := Stay 222 326 w w'
def AddI (base gl : Nat) (t : Int) (L : List RItem) (w : World) (e : Ending) (w' : World) : Prop := e = .returned (.tuple #[]) /\ ItSt base gl t L w' /\ StayI w w' /\ Below base w w'
theorem lset1 {w : World} {g : Nat} {t : TypeId} {x y : Value} (h : Blk w g t #[x,y]) (v : Value) :
  w.grownBy (w.setCell ⟨g,1,none⟩ v) (some g) /\ Blk (w.setCell ⟨g,1,none⟩ v) g t #[x,v] :=
 ⟨gr_set (p := ⟨g,1,none⟩) (World.grownBy.refl w _) (.inl rfl) v,by simpa using h.set_ 1 v⟩
theorem addI_any (kind k t : Int) (a : RAct) (base gl : Nat) (L : List RItem) (w : World) (hst : ItSt base gl t L w) (hL : L.length <= 1000000000) (hbase : base <= w.heap.size) :
  Calls Tryz.prog 184 #[.pointer (some ⟨gl,0,none⟩),.int .i64 kind,.int .i64 k,.agg #[.bool a.1.1,.bool a.1.2,.int .i64 a.2.1.1,.int .i64 a.2.1.2.1,.int .i64 a.2.1.2.2.1,.int .i64 a.2.1.2.2.2.1,.int .i64 a.2.1.2.2.2.2,.int .i64 a.2.2.1,.int .i64 a.2.2.2]] w (AddI base gl t (L ++ [((kind,t,k),a)]) w) := by
 obtain ⟨A0,c0,hbl,hown,hbg⟩ := hst
 obtain ⟨⟨sd,ad⟩,⟨s,b,p,r,i⟩,x,y⟩ := a
 dsimp only
 obtain ⟨n,hn⟩ : ∃ n,L.length = n := ⟨_,rfl⟩
 rw [hn] at hbl hown hL
 have HN := hid hn
 obtain ⟨w1,hw1⟩ : ∃ w1,w.alloc (.cells #[.bool sd,.bool ad,.int .i64 s,.int .i64 b,.int .i64 p,.int .i64 r,.int .i64 i,.int .i64 x,.int .i64 y] 220) = w1 := ⟨_,rfl⟩
 have hB1 : Below w.heap.size w w1 := by rw [<- hw1]; exact (Below.refl _ _).alloc (Nat.le_refl _) _
 have hA1 : Blk w1 w.heap.size 220 #[.bool sd,.bool ad,.int .i64 s,.int .i64 b,.int .i64 p,.int .i64 r,.int .i64 i,.int .i64 x,.int .i64 y] := by rw [<- hw1]; exact Blk.new _ _ _
 have hL1 := hbl.kept hB1
 have HO1 := hid (own_below hown hB1)
 have HB1 := hid hB1
 have HA1 := hid hA1
 have HL1 := hid hL1
 have hz1 := hB1.size
 have hne := hL1.lt
 have hla := hA1.lt
 have HW1 := hid hw1
 clear hn hbl hown hB1 hA1 hL1 hw1
 go_enter Tryz.func184,Tryz.ntmps184
 go_wp2_with fail
 rw [HW1.out]
 have hS : (fun W : World => Blk W gl 326 #[.int .i64 t,.slice A0 n c0] /\ Blk W w.heap.size 220 #[.bool sd,.bool ad,.int .i64 s,.int .i64 b,.int .i64 p,.int .i64 r,.int .i64 i,.int .i64 x,.int .i64 y]) w1.drew := ⟨HL1.out.drew,HA1.out.drew⟩
 refine wp_region_early (fun W : World => Blk W gl 326 #[.int .i64 t,.slice A0 n c0] /\ Blk W w.heap.size 220 #[.bool sd,.bool ad,.int .i64 s,.int .i64 b,.int .i64 p,.int .i64 r,.int .i64 i,.int .i64 x,.int .i64 y]) [0,1,2,3,4,5,6,7,8,9,10,11,12] [13,14] [15,16,17] (by kernel_rfl) (by kernel_rfl) hS ?_
 clear hS
 simp only [List.filterMap_cons,List.filterMap_nil,List.getElem?_cons_succ,List.getElem?_cons_zero]
 refine early_step (.pointer (some ⟨gl,0,none⟩)) rfl (fun W hW => ?_) ?_
 ·go_simp
 go_simp
 refine early_step (.pointer (some ⟨gl,0,none⟩)) rfl (fun W hW => ?_) ?_
 ·go_simp
 go_simp
 refine early_step (.pointer (some ⟨gl,0,none⟩)) rfl (fun W hW => ?_) ?_
 ·go_simp
 go_simp
 refine early_step (.pointer (some ⟨gl,1,none⟩)) rfl (fun W hW => ?_) ?_
 ·go_simp
 go_simp
 refine early_step (.slice A0 n c0) rfl (fun W hW => ?_) ?_
 ·have hc := hW.1.cell 1
  go_simp
 go_simp
 refine early_step (.int .i64 kind) rfl (fun W hW => ?_) ?_
 ·go_simp
 go_simp
 refine early_step (.pointer (some ⟨gl,0,none⟩)) rfl (fun W hW => ?_) ?_
 ·go_simp
 go_simp
 refine early_step (.pointer (some ⟨gl,0,none⟩)) rfl (fun W hW => ?_) ?_
 ·go_simp
 go_simp
 refine early_step (.pointer (some ⟨gl,0,none⟩)) rfl (fun W hW => ?_) ?_
 ·go_simp
 go_simp
 refine early_step (.int .i64 t) rfl (fun W hW => ?_) ?_
 ·have hc := hW.1.cell 0
  go_simp
 go_simp
 refine early_step (.int .i64 k) rfl (fun W hW => ?_) ?_
 ·go_simp
 go_simp
 refine early_step (.agg #[.bool sd,.bool ad,.int .i64 s,.int .i64 b,.int .i64 p,.int .i64 r,.int .i64 i,.int .i64 x,.int .i64 y]) rfl (fun W hW => ?_) ?_
 ·have h0 := hW.2.cell 0
  have h1 := hW.2.cell 1
  have h2 := hW.2.cell 2
  have h3 := hW.2.cell 3
  have h4 := hW.2.cell 4
  have h5 := hW.2.cell 5
  have h6 := hW.2.cell 6
  have h7 := hW.2.cell 7
  have h8 := hW.2.cell 8
  go_simp
 go_simp
 refine early_step (.agg #[.int .i64 kind,.int .i64 t,.int .i64 k,.bool sd,.bool ad,.int .i64 s,.int .i64 b,.int .i64 p,.int .i64 r,.int .i64 i,.int .i64 x,.int .i64 y]) rfl (fun W hW => ?_) ?_
 ·go_simp
 go_simp
 change RestW _ _ _ _ _ (_ :: _ :: []) _ _
 unfold RestW
 go_wp2_with fail
 refine ⟨⟨HL1.out.drew.alloc _,HA1.out.drew.alloc _⟩,?_⟩
 unfold RestW
 change wpList _ _ _ (_ :: []) _ (w1.drew.alloc (.cells (itemV ((kind,t,k),((sd,ad),(s,b,p,r,i),(x,y)))).toArray 222))
 have hsz1 : base <= w1.drew.heap.size := Nat.le_trans hbase hz1
 go_wp2_with (at_builtin; go_must (refine wpList_pushL slItem rfl _ _ rfl base (.slice A0 n c0) n (itemsV L) rfl (show w1.drew.ownsRow base 222 12 (.slice A0 n c0) n (itemsV L) from HO1.out) (itemV ((kind,t,k),((sd,ad),(s,b,p,r,i),(x,y)))).toArray w1.drew.heap.size rfl rfl rfl (itemV_cells _) (by unfold maxLen; omega) (by omega) hsz1 ?_); intro A5 c5 w5 hown5 hb5 hg5 hat5)
 have HL5 := hid (HL1.out.drew.other (show w1.drew.ownsRow base 222 12 (.slice A0 n c0) n (itemsV L) from HO1.out) hg5 (by decide))
 have HA5 := hid (HA1.out.drew.other (show w1.drew.ownsRow base 222 12 (.slice A0 n c0) n (itemsV L) from HO1.out) hg5 (by decide))
 have HO5 := hid hown5
 have HB5 := hid ((HB1.out.mono hbase).drew.trans hb5)
 have HS5 := hid (Stay.trans (Stay.of_below HB1.out.drew) (Stay.of_own' (t := 222) (u := 326) (show w1.drew.ownsRow base 222 12 (.slice A0 n c0) n (itemsV L) from HO1.out) hg5))
 have hz5 : w1.heap.size <= w5.heap.size := hg5.size
 clear hown5 hb5 hg5 hat5
 refine ⟨⟨HL5.out,HA5.out⟩,?_⟩
 unfold RestW
 change wpList _ _ _ (_ :: _ :: _ :: []) _ _
 have v1 : w5.cell? ⟨gl,1,none⟩ = some (.slice A0 n c0) := HL5.out.cell 1
 have f1 := HL5.out.frozen 1
 have l5 := HL5.out.lt
 go_wp2_with fail
 refine NoPanic.normal ?_
 have HST := hid (lset1 HL5.out (.slice A5 (n + 1) c5))
 clear v1 f1
 go_wp2_with fail
 go_end0
 refine ⟨rfl,⟨A5,c5,?_,?_,hbg⟩,?_,?_⟩
 ·rw [List.length_append,HN.out]; exact HST.out.2
 ·rw [List.length_append,HN.out,itemsV_append,itemsV_one]
  exact HO5.out.kept HST.out.1 (.inr (own_blk_ne HO5.out HL5.out (by decide)))
 ·refine HS5.out.trans (fun g e cs h1 h2 hb => hb.grown HST.out.1 (fun e' => ?_))
  injection e' with e'
  subst e'
  exact absurd (Blk.ne_ hb HL5.out h2) (by simp)
 ·exact below_gr HB5.out (HB5.out.size |> Nat.le_trans hbase) HST.out.1 hbg
abbrev KI (base : Nat) (w w' : World) : Prop := StayI w w' /\ Below base w w'
theorem KI.refl (base : Nat) (w : World) : KI base w w := ⟨Stay.refl _ _ _,Below.refl _ _⟩
theorem KI.trans {base : Nat} {a b c : World} (h : KI base a b) (k : KI base b c) : KI base a c := ⟨h.1.trans k.1,h.2.trans k.2⟩
theorem ItSt.call {base gl : Nat} {t : Int} {L : List RItem} {w w' : World} (h : ItSt base gl t L w) (hb : Below w.heap.size w w') : ItSt base gl t L w' := by
 obtain ⟨A0,c0,h1,h2,h3⟩ := h
 exact ⟨A0,c0,h1.kept hb,own_below h2 hb,h3⟩
theorem KI.call {base : Nat} {w w' : World} (h : Below w.heap.size w w') (hb : base <= w.heap.size) : KI base w w' := ⟨Stay.of_below h,h.mono hb⟩
theorem KI.blk {base g : Nat} {w w' : World} {e : TypeId} {cs : Array Value} (h : KI base w w') (hb : Blk w g e cs) (h1 : e ≠ 222) (h2 : e ≠ 326) : Blk w' g e cs := h.1 g e cs h1 h2 hb
theorem Rd.base {base : Nat} {w w' : World} {size : Nat} {A : Option Addr} {n : Nat} {xs : List Value} (h : Rd w size A n xs) (hb : Below base w w') (hA : ∀ b o,A = some ⟨b,o,none⟩ -> b < base) : Rd w' size A n xs := by
 refine ⟨h.1,fun hn => ?_⟩
 obtain ⟨b,o,e,hlt,hc⟩ := h.2 hn
 refine ⟨b,o,e,Nat.lt_of_lt_of_le hlt hb.size,fun j u hu => ?_⟩
 rw [hb.cell (p := ⟨b,o + j,none⟩) (hA b o e)]
 exact hc j u hu
abbrev setC (A : Option Addr) (n cap : Nat) (c : Cfg) (Ab : Option Addr) (nb cb : Nat) (Ag : Option Addr) (ng cg : Nat) : Array Value := #[.slice A n cap,.int .i64 c.sh,.int .i64 c.ra,.int .i64 c.mo,.int .i64 c.wk,.int .i64 c.ba,.int .i64 c.mi,.int .i64 c.st,.int .i64 c.bu,.int .i64 c.ch,.int .i64 c.wi,.int .i64 c.ca,.slice Ab nb cb,.slice Ag ng cg]
abbrev setV (A : Option Addr) (n cap : Nat) (c : Cfg) (Ab : Option Addr) (nb cb : Nat) (Ag : Option Addr) (ng cg : Nat) : Value := .agg (setC A n cap c Ab nb cb Ag ng cg)
theorem jobI_at {pc : PlC} {w t : Int} {j : Nat} {p r x y : Int} (h : pc.bks[j]? = some (x,y)) : pc.jobI w t j p r = (rY t j x y pc.m pc.ch w p r).map (actI t) := by
 unfold PlC.jobI
 rw [h]
end
section
open Go.RowKit
variable (pc : PlC) (c : Cfg) (A : Option Addr) (n cap : Nat) (Ab : Option Addr) (cb : Nat) (Ag : Option Addr) (ng cg : Nat) (x t : Int) (lo hi base gl : Nat) (L : List RItem) (w : World)
theorem rounds20_any (hp : pc.Ok) (hwk : c.wk = pc.m) (hch : c.ch = pc.ch) (hlo : lo <= hi) (hhi : hi <= pc.nb) (hst : ItSt base gl t L w) (hL : L.length <= 200000000) (hbase : base <= w.heap.size)
  (hb : Rd w 2 Ab pc.nb (rv pc.bks)) (hbb : ∀ b o,Ab = some ⟨b,o,none⟩ -> b < base) :
  Calls Tryz.prog 185 #[setV A n cap c Ab pc.nb cb Ag ng cg,.pointer (some ⟨gl,0,none⟩),.int .i64 x,.agg #[.int .i64 lo,.int .i64 hi]] w (AddI base gl t (L ++ pc.rndI x t lo (hi - lo) (2 * (pc.m - 1))) w) := by
 obtain ⟨sh,ra,mo,wk,ba,mi,st,bu,ch,wi,ca⟩ := c
 simp only at hwk hch
 subst hwk hch
 obtain ⟨m,hm⟩ : ∃ m,pc.m = m := ⟨_,rfl⟩
 obtain ⟨ch,hch⟩ : ∃ ch,pc.ch = ch := ⟨_,rfl⟩
 obtain ⟨M,hM⟩ : ∃ M,m - 1 = M := ⟨_,rfl⟩
 obtain ⟨nb,hnb⟩ : ∃ nb,pc.nb = nb := ⟨_,rfl⟩
 have hm1 := hp.m1
 have hm2 := hp.m2
 have hc2 := hp.c2
 have hp2 := hp.p2
 have hnb2 := PlC.nb_le hp
 have HBL : Hid (pc.bks.length = nb) := hid (by rw [pc.bks_length,hnb])
 have HRS : Hid (∀ q : Nat,pc.rndI x t lo (hi - lo) (q + 1) = pc.rndI x t lo (hi - lo) q ++ pc.jobsI x t lo (hi - lo) ((q / M : Nat) : Int) ((q % M : Nat) : Int)) := hid (fun q => by rw [<- hM,<- hm]; exact pc.rndI_succ x t lo (hi - lo) q)
 have HJA : Hid (∀ (j : Nat) (p r a b : Int),pc.bks[j]? = some (a,b) -> pc.jobI x t j p r = (rY t j a b m ch x p r).map (actI t)) := hid (fun j p r a b h => by rw [jobI_at h,hm,hch])
 have HJL : Hid (∀ (k : Nat) (p r : Int),(pc.jobsI x t lo k p r).length <= k * 2000) := hid (fun k p r => pc.jobsI_le hp x t lo k p r)
 have HRL : Hid (∀ q : Nat,(pc.rndI x t lo (hi - lo) q).length <= q * ((hi - lo) * 2000)) := hid (fun q => pc.rndI_le hp x t lo (hi - lo) q)
 have HBI : Hid (∀ (j : Nat) (a b : Int),pc.bks[j]? = some (a,b) -> 0 <= a /\ a <= b /\ b <= 60) := hid (fun j a b h => by have := PlC.bks_in h; simp only at this; omega)
 rw [hm] at hm1 hm2
 rw [hch] at hc2
 rw [hnb] at hnb2 hhi hb
 rw [hm,hch,hnb,hM]
 clear hm hch hnb hp hp2
 have hMm : (m : Int) - 1 = (M : Int) := by omega
 have zm : IntKind.i64.wrap ((m : Int) - 1) = (M : Int) := by rw [hMm]; exact wrap_ok _ (by omega) (by omega)
 obtain ⟨K,hK⟩ : ∃ K,2 * M = K := ⟨_,rfl⟩
 have zm2 : IntKind.i64.wrap ((2 : Int) * (M : Int)) = (K : Int) := by rw [wrap_ok _ (by omega) (by omega)]; omega
 have hK14 : K <= 14 := by omega
 have hKM : K = 0 \/ 1 <= M := by omega
 rw [hK]
 have HKK := hid hK
 clear hK
 have HMm := hid hMm
 have HBB := hid hbb
 clear hMm
 obtain ⟨w0,hw0⟩ : ∃ w0,(w.alloc (.cells (setC A n cap ⟨sh,ra,mo,m,ba,mi,st,bu,ch,wi,ca⟩ Ab nb cb Ag ng cg) 236)).alloc (.cells #[.int .i64 lo,.int .i64 hi] 218) = w0 := ⟨_,rfl⟩
 have hB0 : Below w.heap.size w w0 := by rw [<- hw0]; exact ((Below.refl _ _).alloc (Nat.le_refl _) _).alloc (by simp) _
 have hS0 : Blk w0 w.heap.size 236 (setC A n cap ⟨sh,ra,mo,m,ba,mi,st,bu,ch,wi,ca⟩ Ab nb cb Ag ng cg) := by rw [<- hw0]; exact (Blk.new _ _ _).alloc _
 have hG0 : Blk w0 (w.heap.size + 1) 218 #[.int .i64 lo,.int .i64 hi] := by rw [<- hw0]; exact Blk.new' _ _ (by simp)
 have HS0 := hid hS0
 have HG0 := hid hG0
 have HST0 := hid (hst.call hB0)
 have HB0 := hid hB0
 have HR0 := hid (hb.below hB0)
 have HW0 := hid hw0
 have hz0 : base <= w0.heap.size := Nat.le_trans hbase hB0.size
 obtain ⟨sb,hsb⟩ : ∃ sb,w.heap.size = sb := ⟨_,rfl⟩
 have c4 : w0.cell? ⟨w.heap.size,4,none⟩ = some (.int .i64 m) := hS0.cell 4
 have ls := hS0.lt
 have lg := hG0.lt
 clear hS0 hG0 hst hB0 hb hw0 hbb
 go_enter Tryz.func185,Tryz.ntmps185
 go_wp2_with fail
 rw [HW0.out]
 rw [hsb] at HS0 HG0
 clear c4 ls lg
 go_loopw [19] (fun v wr => ∃ q : Nat,q <= K /\ v = .int .i64 q /\ ItSt base gl t (L ++ pc.rndI x t lo (hi - lo) q) wr /\ KI base w0 wr) (fun v _ => K - (intOf v).toNat)
 case atStart => exact ⟨0,by omega,rfl,by simpa [PlC.rndI] using HST0.out,KI.refl _ _⟩
 case round =>
  obtain ⟨q,hq,rfl,hst,hk⟩ := hrel
  by_cases hlt : q < K
  ·have HQL := hid (HRL.out q)
   have hql : q * ((hi - lo) * 2000) <= 14 * 120000 := Nat.mul_le_mul (by omega) (by omega)
   have hqq := HQL.out
   have HST := hid hst
   have HK := hid hk
   have HSb := hid (hk.blk HS0.out (by decide) (by decide))
   have HGb := hid (hk.blk HG0.out (by decide) (by decide))
   have g0 : wr.cell? ⟨sb + 1,0,none⟩ = some (.int .i64 lo) := HGb.out.cell 0
   have lg := HGb.out.lt
   have i1 : (q : Int) < (K : Int) := by omega
   obtain ⟨wo,hwo⟩ : ∃ wo : World,wo = wr := ⟨_,rfl⟩
   subst hwo
   clear hst hk
   have hM0 : 1 <= M := by omega
   have zn : ¬ M = 0 := by omega
   have hdq1 : q / M <= q := Nat.div_le_self _ _
   have hdq2 : q % M < M := Nat.mod_lt _ (by omega)
   have HSu := HRS.out q
   obtain ⟨d,hd⟩ : ∃ d,q / M = d := ⟨_,rfl⟩
   obtain ⟨r,hr⟩ : ∃ r,q % M = r := ⟨_,rfl⟩
   rw [hd,hr] at HSu
   rw [hd] at hdq1
   rw [hr] at hdq2
   have hqi : (q : Int) / (M : Int) = (d : Int) := by rw [<- hd]; rfl
   have hri : (q : Int).tmod (M : Int) = (r : Int) := by rw [<- hr]; rfl
   have zq : IntKind.i64.wrap ((q : Int) / (M : Int)) = (d : Int) := by rw [hqi]; exact wrap_ok _ (by omega) (by omega)
   replace HSu := hid HSu
   clear hqi hd hr hqq
   go_wp2_with fail
   obtain ⟨L1,hL1⟩ : ∃ L1,L ++ pc.rndI x t lo (hi - lo) q = L1 := ⟨_,rfl⟩
   have hL1l : L1.length <= 201680000 := by rw [<- hL1,List.length_append]; have := HQL.out; omega
   rw [hL1] at HST
   have HL1 := hid hL1
   have HJ0 : Hid (pc.jobsI x t lo 0 (d : Int) (r : Int) = []) := hid rfl
   have hcl : ∃ kk,hi - lo = kk := ⟨_,rfl⟩
   clear hL1 g0 lg hcl
   go_loopw [9] (fun v wr => ∃ j : Nat,lo <= j /\ j <= hi /\ v = .int .i64 j /\ ItSt base gl t (L1 ++ pc.jobsI x t lo (j - lo) (d : Int) (r : Int)) wr /\ KI base w0 wr) (fun v _ => hi - (intOf v).toNat)
   case atStart => exact ⟨lo,by omega,hlo,rfl,by rw [Nat.sub_self,HJ0.out,List.append_nil]; exact HST.out,HK.out⟩
   case round =>
    obtain ⟨j,hj1,hj2,rfl,hst,hk⟩ := hrel
    have HSb := hid (hk.blk HS0.out (by decide) (by decide))
    have HGb := hid (hk.blk HG0.out (by decide) (by decide))
    have g1 : wr.cell? ⟨sb + 1,1,none⟩ = some (.int .i64 hi) := HGb.out.cell 1
    have lg := HGb.out.lt
    by_cases hjlt : j < hi
    ·obtain ⟨A0,c0,hbl,hown,hbg⟩ := hst
     have HST := hid (show ItSt base gl t (L1 ++ pc.jobsI x t lo (j - lo) (d : Int) (r : Int)) wr from ⟨A0,c0,hbl,hown,hbg⟩)
     have HK := hid hk
     obtain ⟨g,o,a,b,rfl,hg,hab,d0,d1⟩ := rd_at HBL.out (HR0.out.base hk.2 HBB.out) (show j < nb by omega)
     have HJAj := hid (HJA.out j (d : Int) (r : Int) a b hab)
     obtain ⟨ha0,hab1,hb60⟩ := HBI.out j a b hab
     have s4 : wr.cell? ⟨sb,4,none⟩ = some (.int .i64 m) := HSb.out.cell 4
     have s9 : wr.cell? ⟨sb,9,none⟩ = some (.int .i64 ch) := HSb.out.cell 9
     have s12 : wr.cell? ⟨sb,12,none⟩ = some (.slice (some ⟨g,o,none⟩) nb cb) := HSb.out.cell 12
     have l0 : wr.cell? ⟨gl,0,none⟩ = some (.int .i64 t) := hbl.cell 0
     have lls := HSb.out.lt
     have lll := hbl.lt
     have i2 : (j : Int) < (hi : Int) := by omega
     have i3 : (0 : Int) <= (j : Int) := by omega
     have i4 : (j : Int) < (nb : Int) := by omega
     have HRj := hid (fun W => roundY_any t j a b m ch x d r W ha0 hab1 (by omega) (by omega) (by omega) (by omega))
     have hle := rY_le t j a b m ch x d r ha0 hab1 (by omega) (by omega)
     obtain ⟨R,hR⟩ : ∃ R,rY t j a b m ch x d r = R := ⟨_,rfl⟩
     rw [hR] at HRj hle HJAj
     obtain ⟨nr,hnr⟩ : ∃ nr,R.length = nr := ⟨_,rfl⟩
     rw [hnr] at HRj hle
     have HNR := hid hnr
     have hzr : base <= wr.heap.size := Nat.le_trans hz0 hk.2.size
     have HJS : Hid (pc.jobsI x t lo (j + 1 - lo) (d : Int) (r : Int) = pc.jobsI x t lo (j - lo) (d : Int) (r : Int) ++ R.map (actI t)) := hid (by
      rw [show j + 1 - lo = (j - lo) + 1 by omega,pc.jobsI_succ,show lo + (j - lo) = j by omega,HJAj.out])
     have hjl := HJL.out (j - lo) (d : Int) (r : Int)
     obtain ⟨L2,hL2⟩ : ∃ L2,L1 ++ pc.jobsI x t lo (j - lo) (d : Int) (r : Int) = L2 := ⟨_,rfl⟩
     have hL2l : L2.length <= 202000000 := by rw [<- hL2,List.length_append]; omega
     rw [hL2] at HST
     have HL2 := hid hL2
     have HJB : Hid (∀ W,wr.alloc (.cells #[.int .i64 t,.int .i64 j,.int .i64 a,.int .i64 b,.int .i64 m,.int .i64 ch] 380) = W -> Below wr.heap.size wr W /\ Blk W wr.heap.size 380 #[.int .i64 t,.int .i64 j,.int .i64 a,.int .i64 b,.int .i64 m,.int .i64 ch]) := hid (by
      rintro W rfl
      exact ⟨(Below.refl _ _).alloc (Nat.le_refl _) _,Blk.new _ _ _⟩)
     clear hbl hown hk hab hR hnr hjl hL2
     go_wp2_with fail
     go_region
     go_wp2_with fail
     obtain ⟨w1,hw1⟩ : ∃ w1,wr.alloc (.cells #[.int .i64 t,.int .i64 j,.int .i64 a,.int .i64 b,.int .i64 m,.int .i64 ch] 380) = w1 := ⟨_,rfl⟩
     obtain ⟨hb1,hj1b⟩ := HJB.out _ hw1
     rw [hw1]
     clear hw1 HJB s4 s9 s12 l0 d0 d1 g1 lg lll lls
     have hS1 := HSb.out.kept hb1
     have s4 : w1.cell? ⟨sb,4,none⟩ = some (.int .i64 m) := hS1.cell 4
     have lls := hS1.lt
     have j0 : w1.cell? ⟨wr.heap.size,0,none⟩ = some (.int .i64 t) := hj1b.cell 0
     have j1 : w1.cell? ⟨wr.heap.size,1,none⟩ = some (.int .i64 j) := hj1b.cell 1
     have j2 : w1.cell? ⟨wr.heap.size,2,none⟩ = some (.int .i64 a) := hj1b.cell 2
     have j3 : w1.cell? ⟨wr.heap.size,3,none⟩ = some (.int .i64 b) := hj1b.cell 3
     have j4 : w1.cell? ⟨wr.heap.size,4,none⟩ = some (.int .i64 m) := hj1b.cell 4
     have j5 : w1.cell? ⟨wr.heap.size,5,none⟩ = some (.int .i64 ch) := hj1b.cell 5
     have llj := hj1b.lt
     have HB1 := hid hb1
     clear hS1 hj1b hb1
     as_aux_lemma =>
      refine wp_region_early (Kept w1) [0,1,2,3,4,5,6,7,8,9,10,11,12,13,16] [14,15] [] (by kernel_rfl) (by kernel_rfl) (Kept.start w1).drew ?_
      simp only [List.filterMap_cons,List.filterMap_nil,List.getElem?_cons_succ,List.getElem?_cons_zero]
      refine early_step (jobV t j a b m ch) rfl (fun W hW => ?_) ?_
      ·obtain ⟨hc,-,-⟩ := hW
       go_simp
      go_simp
      refine early_step (.int .i64 x) rfl (fun W hW => ?_) ?_
      ·obtain ⟨hc,-,-⟩ := hW
       go_simp
      go_simp
      refine early_step (.int .i64 q) rfl (fun W hW => ?_) ?_
      ·obtain ⟨hc,-,-⟩ := hW
       go_simp
      go_simp
      refine early_step (.pointer (some ⟨sb,0,none⟩)) rfl (fun W hW => ?_) ?_
      ·obtain ⟨hc,-,-⟩ := hW
       go_simp
      go_simp
      refine early_step (.pointer (some ⟨sb,4,none⟩)) rfl (fun W hW => ?_) ?_
      ·obtain ⟨hc,-,-⟩ := hW
       go_simp
      go_simp
      refine early_step (.int .i64 m) rfl (fun W hW => ?_) ?_
      ·obtain ⟨hc,-,-⟩ := hW
       go_simp
      go_simp
      refine early_step (.int .i64 M) rfl (fun W hW => ?_) ?_
      ·obtain ⟨hc,-,-⟩ := hW
       go_simp
      go_simp
      refine early_step (.int .i64 d) rfl (fun W hW => ?_) ?_
      ·obtain ⟨hc,-,-⟩ := hW
       go_simp
      go_simp
      refine early_step (.int .i64 q) rfl (fun W hW => ?_) ?_
      ·obtain ⟨hc,-,-⟩ := hW
       go_simp
      go_simp
      refine early_step (.pointer (some ⟨sb,0,none⟩)) rfl (fun W hW => ?_) ?_
      ·obtain ⟨hc,-,-⟩ := hW
       go_simp
      go_simp
      refine early_step (.pointer (some ⟨sb,4,none⟩)) rfl (fun W hW => ?_) ?_
      ·obtain ⟨hc,-,-⟩ := hW
       go_simp
      go_simp
      refine early_step (.int .i64 m) rfl (fun W hW => ?_) ?_
      ·obtain ⟨hc,-,-⟩ := hW
       go_simp
      go_simp
      refine early_step (.int .i64 M) rfl (fun W hW => ?_) ?_
      ·obtain ⟨hc,-,-⟩ := hW
       go_simp
      go_simp
      refine early_step (.int .i64 r) rfl (fun W hW => ?_) ?_
      ·obtain ⟨hc,-,-⟩ := hW
       go_simp
      go_simp
      refine early_step (.int .i64 0) rfl (fun W hW => ?_) ?_
      ·obtain ⟨hc,-,-⟩ := hW
       go_simp
      go_simp
      change RestW _ _ _ _ _ (_ :: _ :: []) _ _
      unfold RestW
      go_wp2_with fail
      ((with_reducible refine (HRj.out _).mono ?_); rintro e w2 ⟨A2,c2,rfl,hown2,hb2⟩)
      have hb2' : Below w1.heap.size w1 w2 := ((Kept.start w1).drew.call hb2).2.2
      have HR2 := hid hown2
      have HB2 := hid hb2'
      have HST2 := hid ((HST.out.call HB1.out).call hb2')
      have HK2 := hid ((HK.out.trans (KI.call HB1.out hzr)).trans (KI.call hb2' (Nat.le_trans hzr HB1.out.size)))
      have hz2 : base <= w2.heap.size := HK2.out.2.size |> Nat.le_trans hz0
      clear hown2 hb2 hb2' j0 j1 j2 j3 j4 j5 s4 lls llj
      go_wp2_with fail
      refine ⟨Kept.of HB2.out,?_⟩
      unfold RestW
      go_wp2_with fail
      refine ⟨Kept.of HB2.out,?_⟩
      unfold RestW
      change wpList _ _ _ [] _ _
      go_wp2_with fail
      refine NoPanic.normal ?_
      go_wp2_with fail
      obtain ⟨wz,hwz⟩ : ∃ wz : World,wz = wr := ⟨_,rfl⟩
      rw [<- hwz] at HB1
      clear hwz
      go_loopw [63] (fun v wr => ∃ i : Nat,i <= nr /\ v = .int .i64 i /\ ItSt base gl t (L2 ++ (R.take i).map (actI t)) wr /\ KI base w2 wr) (fun v _ => nr - (intOf v).toNat)
      case atStart => exact ⟨0,by omega,rfl,by simpa using HST2.out,KI.refl _ _⟩
      case round =>
       obtain ⟨i,hi',rfl,hst3,hk3⟩ := hrel
       have HST3 := hid hst3
       have HK3 := hid hk3
       by_cases hilt : i < nr
       ·obtain ⟨g2,o2,sd,ad,s,bk,p,r2,e,u,v,rfl,hg2,hR2,a0,a1,a2,a3,a4,a5,a6,a7,a8⟩ := act_cells HNR.out (Rd.of_own (hk3.1.own hk3.2.size HR2.out (by decide) (by decide))) hilt
        have i5 : (i : Int) < (nr : Int) := by omega
        have i6 : (0 : Int) <= (i : Int) := by omega
        have HTK : Hid ((R.take (i + 1)).map (actI t) = (R.take i).map (actI t) ++ [actI t ((sd,ad),(s,bk,p,r2,e),(u,v))]) := hid (by
         have hlt' : i < R.length := by rw [HNR.out]; exact hilt
         rw [take_snoc _ _ hlt',List.map_append]
         rw [List.getElem?_eq_getElem hlt'] at hR2
         injection hR2 with hR2
         rw [hR2]; rfl)
        have hbr : base <= wr.heap.size := Nat.le_trans hz2 hk3.2.size
        have hlen : (L2 ++ (R.take i).map (actI t)).length <= 1000000000 := by
         rw [List.length_append,List.length_map,List.length_take]
         omega
        have HAD := hid (fun (kind : Int) (W : World) (hb : Below wr.heap.size wr W) => addI_any kind 0 t ((sd,ad),(s,bk,p,r2,e),(u,v)) base gl (L2 ++ (R.take i).map (actI t)) W (HST3.out.call hb) hlen (Nat.le_trans hbr hb.size))
        dsimp only at HAD
        clear hst3 hk3 hR2
        cases sd
        ·as_aux_lemma =>
          go_wp2_with fail
          obtain ⟨w3,hw3⟩ : ∃ w3,wr.alloc (.cells #[.bool false,.bool ad,.int .i64 s,.int .i64 bk,.int .i64 p,.int .i64 r2,.int .i64 e,.int .i64 u,.int .i64 v] 220) = w3 := ⟨_,rfl⟩
          have hb3 : Below wr.heap.size wr w3 := by rw [<- hw3]; exact (Below.refl _ _).alloc (Nat.le_refl _) _
          rw [hw3]
          ((with_reducible refine (HAD.out 4 w3 hb3).mono ?_); rintro e w4 ⟨rfl,hst4,hk4⟩)
          have HST4 := hid hst4
          have HK4 := hid ((HK3.out.trans (KI.call hb3 hbr)).trans hk4)
          clear hst4 hk4 hw3 hb3 HAD
          go_wp2_with fail
          go_roundw
          case rel => exact ⟨i + 1,by omega,by go_num,by rw [HTK.out,<- List.append_assoc]; exact HST4.out,HK4.out⟩
          case measure => simp [intOf]; omega
        ·as_aux_lemma =>
          go_wp2_with fail
          obtain ⟨w3,hw3⟩ : ∃ w3,wr.alloc (.cells #[.bool true,.bool ad,.int .i64 s,.int .i64 bk,.int .i64 p,.int .i64 r2,.int .i64 e,.int .i64 u,.int .i64 v] 220) = w3 := ⟨_,rfl⟩
          have hb3 : Below wr.heap.size wr w3 := by rw [<- hw3]; exact (Below.refl _ _).alloc (Nat.le_refl _) _
          rw [hw3]
          ((with_reducible refine (HAD.out 3 w3 hb3).mono ?_); rintro e w4 ⟨rfl,hst4,hk4⟩)
          have HST4 := hid hst4
          have HK4 := hid ((HK3.out.trans (KI.call hb3 hbr)).trans hk4)
          clear hst4 hk4 hw3 hb3 HAD
          go_wp2_with fail
          go_roundw
          case rel => exact ⟨i + 1,by omega,by go_num,by rw [HTK.out,<- List.append_assoc]; exact HST4.out,HK4.out⟩
          case measure => simp [intOf]; omega
       ·obtain rfl : i = nr := by omega
        have HTA : Hid (R.take i = R) := hid (List.take_of_length_le (by rw [HNR.out]; omega))
        clear hst3 hk3
        go_wp2_with fail
        go_roundw
        case rel => exact ⟨j + 1,by omega,by omega,by go_num,by rw [HJS.out,<- List.append_assoc,HL2.out,<- HTA.out]; exact HST3.out,HK2.out.trans HK3.out⟩
        case measure => simp [intOf]; omega
    ·obtain rfl : j = hi := by omega
     have HST := hid hst
     have HK := hid hk
     clear hst hk
     go_wp2_with fail
     go_roundw
     case rel => exact ⟨q + 1,by omega,by go_num,by rw [HSu.out,<- List.append_assoc,HL1.out]; exact HST.out,HK.out⟩
     case measure => simp [intOf]; omega
  ·obtain rfl : q = K := by omega
   have HST := hid hst
   have HK := hid hk
   clear hst hk
   go_wp2_with fail
   go_end0
   exact ⟨rfl,HST.out,(Stay.of_below HB0.out).trans HK.out.1,(HB0.out.mono hbase).trans HK.out.2⟩
end
end Go.Proofs.YtkmaeipoaoikpaaGreat
