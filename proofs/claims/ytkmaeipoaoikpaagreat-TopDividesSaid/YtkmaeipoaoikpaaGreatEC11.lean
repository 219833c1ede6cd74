/- Lemmas. -/
import Derived.Test.YtkmaeipoaoikpaaGreatEC10
namespace Go.Proofs.YtkmaeipoaoikpaaGreat
set_option linter.all false
set_option maxRecDepth 100000
set_option maxHeartbeats 4000000
open Lib (hid)
open Go.RowKit
open Tryz
def Zu0:Zde:=((false,false),(0,0,0,0,0),(0,0))
def Zb4(k t n:Int):ZaH:=((k,t,n),Zu0)
def ZhE(t:Int)(a:Zde):ZaH:=((if a.1.1=true then 3 else 4,t,0),a)
def ZaE(k t:Int)(lo n:Nat):List ZaH:=(List.range n).map fun i=>Zb4 k t ((lo+i:Nat):Int)
theorem ZbT(k t:Int)(lo n:Nat):ZaE k t lo (n+1)=ZaE k t lo n++[Zb4 k t ((lo+n:Nat):Int)]:=by simp[ZaE,List.range_succ]
theorem Zaq(k t:Int)(lo n:Nat):(ZaE k t lo n).length=n:=by simp[ZaE]
structure PlC where
 P:Nat
 bu:Nat
 m:Nat
 ch:Int
 wi:Nat
 mi:Nat
structure PlC.Ok(c:PlC):Prop where
 p1:1<=c.P
 p2:c.P<=60
 b1:1<=c.bu
 b2:c.bu<=1048576
 m1:1<=c.m
 m2:c.m<=8
 c2:c.ch<=1048576
 w1:1<=c.wi
 w2:c.wi<=1048576
 i1:1<=c.mi
 i2:c.mi<=20
def PlC.bks(c:PlC):List (Int×Int):=Zbc c.P c.bu
def PlC.nb(c:PlC):Nat:=cnt c.P c.bu
def PlC.grps(c:PlC):List (Int×Int):=Zat c.nb c.wi
theorem PlC.bks_length(c:PlC):c.bks.length=c.nb:=ZgF _ _
theorem PlC.grps_length(c:PlC):c.grps.length=cnt c.nb c.wi:=Zan _ _
theorem PlC.nb_le{c:PlC}(h:c.Ok):c.nb<=60:=by have:=Zci c.P c.bu;have:=h.p2;unfold PlC.nb;omega
theorem PlC.nb_pos{c:PlC}(h:c.Ok):1<=c.nb:=by unfold PlC.nb;rw[Zdm _ _ h.p1 h.b1];exact Nat.le_add_left 1 _
theorem ZkE(n s k:Nat)(x:Int×Int)(h:(Zat n s)[k]?=some x):0<=x.1/\x.1<=x.2/\x.2<=n/\x.2-x.1<=s:=by
 have hk:k<(Zat n s).length:=by
  rcases Nat.lt_or_ge k (Zat n s).length with h'|h'
  ·exact h'
  ·rw[YaN h'] at h;cases h
 rw[YaA hk] at h;injection h with h
 rw[<-h,Zch];dsimp only;rw[Zan] at hk;have hle:k*s<=n:=by
  unfold cnt at hk
  split at hk
  ·omega
  ·have h1:k<=(n-1)/s:=by omega
   have h2:k*s<=(n-1)/s*s:=YaW s h1;have h3:=Nat.div_mul_le_self (n-1) s;omega
 omega
theorem PlC.bks_in{c:PlC}{j:Nat}{x:Int×Int}(h:c.bks[j]?=some x):0<=x.1/\x.1<=x.2/\x.2<=c.P:=by
 have hm:x∈Zat c.P c.bu:=by
  have:=YaL h;unfold PlC.bks Zbc at this
  simpa using this
 obtain⟨i,hi,e⟩:=List.mem_iff_getElem.1 hm;obtain⟨a,b,d,_⟩:=ZkE c.P c.bu i x (by rw[YaA hi,e]);exact⟨a,b,d⟩
theorem PlC.grps_in{c:PlC}{j:Nat}{x:Int×Int}(h:c.grps[j]?=some x):0<=x.1/\x.1<=x.2/\x.2<=c.nb/\x.2-x.1<=c.wi:=ZkE _ _ _ _ h
def PlC.jobI(c:PlC)(w t:Int)(j:Nat)(p r:Int):List ZaH:=match c.bks[j]? with
 |some x=>(rY t j x.1 x.2 c.m c.ch w p r).map (ZhE t)
 |none=>[]
def PlC.jobsI(c:PlC)(w t:Int)(lo n:Nat)(p r:Int):List ZaH:=(List.range n).flatMap fun i=>c.jobI w t (lo+i) p r
def PlC.rndI(c:PlC)(w t:Int)(lo n k:Nat):List ZaH:=(List.range k).flatMap fun q=>c.jobsI w t lo n ((q/(c.m-1):Nat):Int) ((q%(c.m-1):Nat):Int)
def PlC.groupI(c:PlC)(w t:Int)(lo n:Nat):List ZaH:=ZaE 2 t lo n++c.rndI w t lo n (2*(c.m-1))++ZaE 5 t lo n
def PlC.groupG(c:PlC)(w t:Int)(g:Int×Int):List ZaH:=c.groupI w t g.1.toNat (g.2-g.1).toNat
def PlC.grpsI(c:PlC)(w t:Int)(k:Nat):List ZaH:=(c.grps.take k).flatMap (c.groupG w t)
def PlC.itemsI(c:PlC)(w t:Int):List ZaH:=ZaE 1 t 0 c.mi++c.grpsI w t (cnt c.nb c.wi)++[Zb4 6 t 0]
theorem PlC.jobsI_succ(c:PlC)(w t:Int)(lo n:Nat)(p r:Int):c.jobsI w t lo (n+1) p r=c.jobsI w t lo n p r++c.jobI w t (lo+n) p r:=by simp[PlC.jobsI,List.range_succ]
theorem PlC.rndI_succ(c:PlC)(w t:Int)(lo n k:Nat):c.rndI w t lo n (k+1)=c.rndI w t lo n k++c.jobsI w t lo n ((k/(c.m-1):Nat):Int) ((k%(c.m-1):Nat):Int):=by simp[PlC.rndI,List.range_succ]
theorem PlC.grpsI_succ(c:PlC)(w t:Int)(k:Nat)(g:Int×Int)(h:c.grps[k]?=some g):c.grpsI w t (k+1)=c.grpsI w t k++c.groupG w t g:=by
 have hk:k<c.grps.length:=by
  rcases Nat.lt_or_ge k c.grps.length with h'|h'
  ·exact h'
  ·rw[YaN h'] at h;cases h
 rw[YaA hk] at h;injection h with h
 rw[PlC.grpsI,Zbd _ _ hk,List.flatMap_append,h];simp[PlC.grpsI]
theorem ZeU{α:Type}(f:Nat->List α)(d:Nat)(h:∀i,(f i).length<=d)(n:Nat):((List.range n).flatMap f).length<=n*d:=by
 induction n with
 |zero=>simp
 |succ n ih=>
  rw[List.range_succ,List.flatMap_append,YaS,Nat.succ_mul];have:=h n;simp only[List.flatMap_cons,List.flatMap_nil,List.append_nil];omega
theorem PlC.jobI_le{c:PlC}(h:c.Ok)(w t:Int)(j:Nat)(p r:Int):(c.jobI w t j p r).length<=2000:=by
 unfold PlC.jobI
 cases hx:c.bks[j]? with
 |none=>simp
 |some x=>
  obtain⟨a,b,d⟩:=PlC.bks_in hx;have:=h.p2;simp only[List.length_map];exact ZuZ _ _ _ _ _ _ _ _ _ a b (by omega) (by have:=h.m1;omega)
theorem PlC.jobsI_le{c:PlC}(h:c.Ok)(w t:Int)(lo n:Nat)(p r:Int):(c.jobsI w t lo n p r).length<=n*2000:=ZeU _ _ (fun i=>c.jobI_le h w t _ p r) n
theorem PlC.rndI_le{c:PlC}(h:c.Ok)(w t:Int)(lo n k:Nat):(c.rndI w t lo n k).length<=k*(n*2000):=ZeU _ _ (fun i=>c.jobsI_le h w t lo n _ _) k
theorem PlC.groupI_le{c:PlC}(h:c.Ok)(w t:Int)(lo n:Nat)(hn:n<=60):(c.groupI w t lo n).length<=1680120:=by
 have h1:=c.rndI_le h w t lo n (2*(c.m-1));have h2:2*(c.m-1)<=14:=by have:=h.m2;omega
 have h3:2*(c.m-1)*(n*2000)<=14*120000:=Nat.mul_le_mul h2 (by omega);rw[PlC.groupI,YaS,YaS,Zaq,Zaq];omega
theorem PlC.grpsI_le{c:PlC}(h:c.Ok)(w t:Int)(k:Nat)(hk:k<=cnt c.nb c.wi):(c.grpsI w t k).length<=k*1680120:=by
 induction k with
 |zero=>simp[PlC.grpsI]
 |succ k ih=>
  have hg:c.grps[k]?=some (c.grps[k]'(by rw[c.grps_length];omega)):=YaA _;rw[c.grpsI_succ w t k _ hg,YaS];have hin:=PlC.grps_in hg;have hnb:=PlC.nb_le h;have h1:=c.groupI_le h w t (c.grps[k]'(by rw[c.grps_length];omega)).1.toNat ((c.grps[k]'(by rw[c.grps_length];omega)).2-(c.grps[k]'(by rw[c.grps_length];omega)).1).toNat (by omega);have h2:=ih (by omega);unfold PlC.groupG;omega
theorem PlC.itemsI_le{c:PlC}(h:c.Ok)(w t:Int):(c.itemsI w t).length<=200000000:=by
 have h1:=c.grpsI_le h w t _ (YaF _);have h2:cnt c.nb c.wi<=60:=YaH (Zci _ _) (PlC.nb_le h);have h3:=h.i2;rw[PlC.itemsI,YaS,YaS,Zaq];simp only[List.length_cons,List.length_nil];omega
theorem Zs8(s s' b p r:Int)(xs ys:List (Int×Int))(i:Nat):(ZpL s b p r xs ys i).length=(ZpL s' b p r xs ys i).length:=by
 unfold ZpL
 cases xs[i]?<;>cases ys[i]?<;>rfl
theorem Zjh{α:Type}(f g:Nat->List α)(h:∀i,(f i).length=(g i).length)(n:Nat):((List.range n).flatMap f).length=((List.range n).flatMap g).length:=by
 induction n with
 |zero=>rfl
 |succ n ih=>rw[List.range_succ,List.flatMap_append,List.flatMap_append,YaS,YaS,ih];simp[h]
theorem Zv2(s s' b lo hi m c x p r:Int):(rY s b lo hi m c x p r).length=(rY s' b lo hi m c x p r).length:=by
 unfold rY
 split
 ·unfold ZcM Zc7 Zhn;exact Zjh _ _ (fun i=>Zs8 s s' b p r _ _ i) _
 ·rfl
theorem PlC.jobI_len(c:PlC)(w t t':Int)(j:Nat)(p r:Int):(c.jobI w t j p r).length=(c.jobI w t' j p r).length:=by
 unfold PlC.jobI
 cases c.bks[j]? with
 |none=>rfl
 |some x=>simp only[List.length_map];exact Zv2 _ _ _ _ _ _ _ _ _ _
theorem PlC.groupI_len(c:PlC)(w t t':Int)(lo n:Nat):(c.groupI w t lo n).length=(c.groupI w t' lo n).length:=by
 simp only[PlC.groupI,YaS,Zaq];rw[show (c.rndI w t lo n (2*(c.m-1))).length=(c.rndI w t' lo n (2*(c.m-1))).length from Zjh _ _ (fun q=>Zjh _ _ (fun i=>c.jobI_len w t t' _ _ _) _) _]
theorem PlC.grpsI_len(c:PlC)(w t t':Int)(k:Nat):(c.grpsI w t k).length=(c.grpsI w t' k).length:=by
 unfold PlC.grpsI
 induction c.grps.take k with
 |nil=>rfl
 |cons g l ih=>rw[List.flatMap_cons,List.flatMap_cons,YaS,YaS,ih];unfold PlC.groupG;rw[c.groupI_len w t t']
theorem PlC.itemsI_len(c:PlC)(w t t':Int):(c.itemsI w t).length=(c.itemsI w t').length:=by
 simp only[PlC.itemsI,YaS,Zaq];rw[c.grpsI_len w t t'];rfl
theorem PlC.itemsI_pos(c:PlC)(w t:Int):1<=(c.itemsI w t).length:=by simp only[PlC.itemsI,YaS,List.length_cons,List.length_nil];omega
theorem Zv3:Sl prog 118 222 (.agg #[.int .i64 0,.int .i64 0,.int .i64 0,.bool false,.bool false,.int .i64 0,.int .i64 0,.int .i64 0,.int .i64 0,.int .i64 0,.int .i64 0,.int .i64 0]) 12 88:=⟨underlying118,by kernel_rfl,rfl,by omega⟩
def ZlC(base gl:Nat)(t:Int)(L:List ZaH)(w:World):Prop:=∃A0 c0,Blk w gl 326 #[.int .i64 t,.slice A0 L.length c0]/\w.ownsRow base 222 12 (.slice A0 L.length c0) L.length (ZaJ L)/\base<=gl
abbrev Zv4(w w':World):Prop:=Zcx 222 326 w w'
def Zw7(base gl:Nat)(t:Int)(L:List ZaH)(w:World)(e:Ending)(w':World):Prop:=e=.returned (.tuple #[])/\ZlC base gl t L w'/\Zv4 w w'/\Below base w w'
theorem Zw8{w:World}{g:Nat}{t:TypeId}{x y:Value}(h:Blk w g t #[x,y])(v:Value) :
  w.grownBy (w.setCell ⟨g,1,none⟩ v) (some g)/\Blk (w.setCell ⟨g,1,none⟩ v) g t #[x,v]:=
 ⟨Zak (p:=⟨g,1,none⟩) (World.grownBy.refl w _) (.inl rfl) v,by simpa using h.set_ 1 v⟩
theorem Znz(kind k t:Int)(a:Zde)(base gl:Nat)(L:List ZaH)(w:World)(hst:ZlC base gl t L w)(hL:L.length<=1000000000)(hbase:base<=w.heap.size) :
  Calls prog 184 #[.pointer (some ⟨gl,0,none⟩),.int .i64 kind,.int .i64 k,.agg #[.bool a.1.1,.bool a.1.2,.int .i64 a.2.1.1,.int .i64 a.2.1.2.1,.int .i64 a.2.1.2.2.1,.int .i64 a.2.1.2.2.2.1,.int .i64 a.2.1.2.2.2.2,.int .i64 a.2.2.1,.int .i64 a.2.2.2]] w (Zw7 base gl t (L++[((kind,t,k),a)]) w):=by
 obtain⟨A0,c0,hbl,hown,hbg⟩:=hst;obtain⟨⟨sd,ad⟩,⟨s,b,p,r,i⟩,x,y⟩:=a;dsimp only;obtain⟨n,hn⟩:∃n,L.length=n:=⟨_,rfl⟩;rw[hn] at hbl hown hL;have HN:=hid hn;obtain⟨w1,hw1⟩:∃w1,w.alloc (.cells #[.bool sd,.bool ad,.int .i64 s,.int .i64 b,.int .i64 p,.int .i64 r,.int .i64 i,.int .i64 x,.int .i64 y] 220)=w1:=⟨_,rfl⟩;have hB1:Below w.heap.size w w1:=by rw[<-hw1];exact bA0 _
 have hA1:Blk w1 w.heap.size 220 #[.bool sd,.bool ad,.int .i64 s,.int .i64 b,.int .i64 p,.int .i64 r,.int .i64 i,.int .i64 x,.int .i64 y]:=by rw[<-hw1];exact Blk.new _ _ _
 have hL1:=hbl.kept hB1;have HO1:=hid (Zac hown hB1);have HB1:=hid hB1;have HA1:=hid hA1;have HL1:=hid hL1;have hz1:=hB1.size;have hne:=hL1.lt;have hla:=hA1.lt;have HW1:=hid hw1;clear hn hbl hown hB1 hA1 hL1 hw1
 go_enter func184,ntmps184
 go_wp2_with fail;rw[HW1.out];have hS:(fun W:World=>Blk W gl 326 #[.int .i64 t,.slice A0 n c0]/\Blk W w.heap.size 220 #[.bool sd,.bool ad,.int .i64 s,.int .i64 b,.int .i64 p,.int .i64 r,.int .i64 i,.int .i64 x,.int .i64 y]) w1.drew:=⟨HL1.out.drew,HA1.out.drew⟩;refine Zad (fun W:World=>Blk W gl 326 #[.int .i64 t,.slice A0 n c0]/\Blk W w.heap.size 220 #[.bool sd,.bool ad,.int .i64 s,.int .i64 b,.int .i64 p,.int .i64 r,.int .i64 i,.int .i64 x,.int .i64 y]) [0,1,2,3,4,5,6,7,8,9,10,11,12] [13,14] [15,16,17] (by kernel_rfl) (by kernel_rfl) hS ?_;clear hS;simp only[YaO,YaP,YaB,YaC];refine Zaa (.pointer (some ⟨gl,0,none⟩)) rfl (fun W hW=>?_) ?_
 ·go_simp
 go_simp;refine Zaa (.pointer (some ⟨gl,0,none⟩)) rfl (fun W hW=>?_) ?_
 ·go_simp
 go_simp;refine Zaa (.pointer (some ⟨gl,0,none⟩)) rfl (fun W hW=>?_) ?_
 ·go_simp
 go_simp;refine Zaa (.pointer (some ⟨gl,1,none⟩)) rfl (fun W hW=>?_) ?_
 ·go_simp
 go_simp;refine Zaa (.slice A0 n c0) rfl (fun W hW=>?_) ?_
 ·have hc:=hW.1.cell 1;go_simp
 go_simp;refine Zaa (.int .i64 kind) rfl (fun W hW=>?_) ?_
 ·go_simp
 go_simp;refine Zaa (.pointer (some ⟨gl,0,none⟩)) rfl (fun W hW=>?_) ?_
 ·go_simp
 go_simp;refine Zaa (.pointer (some ⟨gl,0,none⟩)) rfl (fun W hW=>?_) ?_
 ·go_simp
 go_simp;refine Zaa (.pointer (some ⟨gl,0,none⟩)) rfl (fun W hW=>?_) ?_
 ·go_simp
 go_simp;refine Zaa (.int .i64 t) rfl (fun W hW=>?_) ?_
 ·have hc:=hW.1.cell 0;go_simp
 go_simp;refine Zaa (.int .i64 k) rfl (fun W hW=>?_) ?_
 ·go_simp
 go_simp;refine Zaa (.agg #[.bool sd,.bool ad,.int .i64 s,.int .i64 b,.int .i64 p,.int .i64 r,.int .i64 i,.int .i64 x,.int .i64 y]) rfl (fun W hW=>?_) ?_
 ·have h0:=hW.2.cell 0;have h1:=hW.2.cell 1;have h2:=hW.2.cell 2;have h3:=hW.2.cell 3;have h4:=hW.2.cell 4;have h5:=hW.2.cell 5;have h6:=hW.2.cell 6;have h7:=hW.2.cell 7;have h8:=hW.2.cell 8;go_simp
 go_simp;refine Zaa (.agg #[.int .i64 kind,.int .i64 t,.int .i64 k,.bool sd,.bool ad,.int .i64 s,.int .i64 b,.int .i64 p,.int .i64 r,.int .i64 i,.int .i64 x,.int .i64 y]) rfl (fun W hW=>?_) ?_
 ·go_simp
 go_simp;change Zah _ _ _ _ _ (_::_::[]) _ _;unfold Zah;go_wp2_with fail;refine⟨⟨HL1.out.drew.alloc _,HA1.out.drew.alloc _⟩,?_⟩;unfold Zah;change wpList _ _ _ (_::[]) _ (w1.drew.alloc (.cells (ZfY ((kind,t,k),((sd,ad),(s,b,p,r,i),(x,y)))).toArray 222));have hsz1:base<=w1.drew.heap.size:=YaH hbase hz1
 go_wp2_with (at_builtin;go_must (refine Zaj Zv3 rfl _ _ rfl base (.slice A0 n c0) n (ZaJ L) rfl (show w1.drew.ownsRow base 222 12 (.slice A0 n c0) n (ZaJ L) from HO1.out) (ZfY ((kind,t,k),((sd,ad),(s,b,p,r,i),(x,y)))).toArray w1.drew.heap.size rfl rfl rfl (Zej _) (by unfold maxLen;omega) (by omega) hsz1 ?_);intro A5 c5 w5 hown5 hb5 hg5 hat5)
 have HL5:=hid (HL1.out.drew.other (show w1.drew.ownsRow base 222 12 (.slice A0 n c0) n (ZaJ L) from HO1.out) hg5 (by decide));have HA5:=hid (HA1.out.drew.other (show w1.drew.ownsRow base 222 12 (.slice A0 n c0) n (ZaJ L) from HO1.out) hg5 (by decide));have HO5:=hid hown5;have HB5:=hid ((HB1.out.mono hbase).drew.trans hb5);have HS5:=hid (Zcx.trans (Zcx.of_below HB1.out.drew) (Zcx.of_own' (t:=222) (u:=326) (show w1.drew.ownsRow base 222 12 (.slice A0 n c0) n (ZaJ L) from HO1.out) hg5));have hz5:w1.heap.size<=w5.heap.size:=hg5.size;clear hown5 hb5 hg5 hat5;refine⟨⟨HL5.out,HA5.out⟩,?_⟩;unfold Zah;change wpList _ _ _ (_::_::_::[]) _ _;have v1:w5.cell? ⟨gl,1,none⟩=some (.slice A0 n c0):=HL5.out.cell 1;have f1:=HL5.out.frozen 1;have l5:=HL5.out.lt;go_wp2_with fail;refine NoPanic.normal ?_;have HST:=hid (Zw8 HL5.out (.slice A5 (n+1) c5));clear v1 f1;go_wp2_with fail
 go_end0
 refine⟨rfl,⟨A5,c5,?_,?_,hbg⟩,?_,?_⟩
 ·rw[YaS,HN.out];exact HST.out.2
 ·rw[YaS,HN.out,ZeF,Zib];exact HO5.out.kept HST.out.1 (.inr (Zab HO5.out HL5.out (by decide)))
 ·refine HS5.out.trans (fun g e cs h1 h2 hb=>hb.grown HST.out.1 (fun e'=>?_));injection e' with e'
  subst e';exact absurd (Blk.ne_ hb HL5.out h2) (by simp)
 ·exact Zai HB5.out (HB5.out.size |> YaH hbase) HST.out.1 hbg
abbrev KI(base:Nat)(w w':World):Prop:=Zv4 w w'/\Below base w w'
theorem KI.refl(base:Nat)(w:World):KI base w w:=⟨Zcx.refl _ _ _,bR0 _ _⟩
theorem KI.trans{base:Nat}{a b c:World}(h:KI base a b)(k:KI base b c):KI base a c:=⟨h.1.trans k.1,h.2.trans k.2⟩
theorem ZlC.call{base gl:Nat}{t:Int}{L:List ZaH}{w w':World}(h:ZlC base gl t L w)(hb:Below w.heap.size w w'):ZlC base gl t L w':=by
 obtain⟨A0,c0,h1,h2,h3⟩:=h;exact⟨A0,c0,h1.kept hb,Zac h2 hb,h3⟩
theorem KI.call{base:Nat}{w w':World}(h:Below w.heap.size w w')(hb:base<=w.heap.size):KI base w w':=⟨Zcx.of_below h,h.mono hb⟩
theorem KI.blk{base g:Nat}{w w':World}{e:TypeId}{cs:Array Value}(h:KI base w w')(hb:Blk w g e cs)(h1:e≠222)(h2:e≠326):Blk w' g e cs:=h.1 g e cs h1 h2 hb
theorem Rd.base{base:Nat}{w w':World}{size:Nat}{A:Option Addr}{n:Nat}{xs:List Value}(h:Rd w size A n xs)(hb:Below base w w')(hA:∀b o,A=some ⟨b,o,none⟩->b<base):Rd w' size A n xs:=by
 refine⟨h.1,fun hn=>?_⟩;obtain⟨b,o,e,hlt,hc⟩:=h.2 hn;refine⟨b,o,e,YaK hlt hb.size,fun j u hu=>?_⟩;rw[hb.cell (p:=⟨b,o+j,none⟩) (hA b o e)];exact hc j u hu
abbrev setC(A:Option Addr)(n cap:Nat)(c:Cfg)(Ab:Option Addr)(nb cb:Nat)(Ag:Option Addr)(ng cg:Nat):Array Value:=#[.slice A n cap,.int .i64 c.sh,.int .i64 c.ra,.int .i64 c.mo,.int .i64 c.wk,.int .i64 c.ba,.int .i64 c.mi,.int .i64 c.st,.int .i64 c.bu,.int .i64 c.ch,.int .i64 c.wi,.int .i64 c.ca,.slice Ab nb cb,.slice Ag ng cg]
abbrev Zw9(A:Option Addr)(n cap:Nat)(c:Cfg)(Ab:Option Addr)(nb cb:Nat)(Ag:Option Addr)(ng cg:Nat):Value:=.agg (setC A n cap c Ab nb cb Ag ng cg)
theorem ZqO{pc:PlC}{w t:Int}{j:Nat}{p r x y:Int}(h:pc.bks[j]?=some (x,y)):pc.jobI w t j p r=(rY t j x y pc.m pc.ch w p r).map (ZhE t):=by
 unfold PlC.jobI;rw[h]
section
variable(pc:PlC)(c:Cfg)(A:Option Addr)(n cap:Nat)(Ab:Option Addr)(cb:Nat)(Ag:Option Addr)(ng cg:Nat)(x t:Int)(lo hi base gl:Nat)(L:List ZaH)(w:World)
theorem ZkF(hp:pc.Ok)(hwk:c.wk=pc.m)(hch:c.ch=pc.ch)(hlo:lo<=hi)(hhi:hi<=pc.nb)(hst:ZlC base gl t L w)(hL:L.length<=200000000)(hbase:base<=w.heap.size)
  (hb:Rd w 2 Ab pc.nb (rv pc.bks)) (hbb:∀b o,Ab=some ⟨b,o,none⟩->b<base) :
  Calls prog 185 #[Zw9 A n cap c Ab pc.nb cb Ag ng cg,.pointer (some ⟨gl,0,none⟩),.int .i64 x,.agg #[.int .i64 lo,.int .i64 hi]] w (Zw7 base gl t (L++pc.rndI x t lo (hi-lo) (2*(pc.m-1))) w):=by
 obtain⟨sh,ra,mo,wk,ba,mi,st,bu,ch,wi,ca⟩:=c;simp only at hwk hch;subst hwk hch;obtain⟨m,hm⟩:∃m,pc.m=m:=⟨_,rfl⟩;obtain⟨ch,hch⟩:∃ch,pc.ch=ch:=⟨_,rfl⟩;obtain⟨M,hM⟩:∃M,m-1=M:=⟨_,rfl⟩;obtain⟨nb,hnb⟩:∃nb,pc.nb=nb:=⟨_,rfl⟩;have hm1:=hp.m1;have hm2:=hp.m2;have hc2:=hp.c2;have hp2:=hp.p2;have hnb2:=PlC.nb_le hp;have HBL:Hid (pc.bks.length=nb):=hid (by rw[pc.bks_length,hnb]);have HRS:Hid (∀q:Nat,pc.rndI x t lo (hi-lo) (q+1)=pc.rndI x t lo (hi-lo) q++pc.jobsI x t lo (hi-lo) ((q/M:Nat):Int) ((q%M:Nat):Int)):=hid (fun q=>by rw[<-hM,<-hm];exact pc.rndI_succ x t lo (hi-lo) q);have HJA:Hid (∀(j:Nat) (p r a b:Int),pc.bks[j]?=some (a,b)->pc.jobI x t j p r=(rY t j a b m ch x p r).map (ZhE t)):=hid (fun j p r a b h=>by rw[ZqO h,hm,hch]);have HJL:Hid (∀(k:Nat) (p r:Int),(pc.jobsI x t lo k p r).length<=k*2000):=hid (fun k p r=>pc.jobsI_le hp x t lo k p r);have HRL:Hid (∀q:Nat,(pc.rndI x t lo (hi-lo) q).length<=q*((hi-lo)*2000)):=hid (fun q=>pc.rndI_le hp x t lo (hi-lo) q);have HBI:Hid (∀(j:Nat) (a b:Int),pc.bks[j]?=some (a,b)->0<=a/\a<=b/\b<=60):=hid (fun j a b h=>by have:=PlC.bks_in h;simp only at this;omega);rw[hm] at hm1 hm2;rw[hch] at hc2;rw[hnb] at hnb2 hhi hb;rw[hm,hch,hnb,hM];clear hm hch hnb hp hp2;have hMm:(m:Int)-1=(M:Int):=by omega
 have zm:IntKind.i64.wrap ((m:Int)-1)=(M:Int):=by rw[hMm];exact ZcZ _ (by omega) (by omega)
 obtain⟨K,hK⟩:∃K,2*M=K:=⟨_,rfl⟩;have zm2:IntKind.i64.wrap ((2:Int)*(M:Int))=(K:Int):=by rw[ZcZ _ (by omega) (by omega)];omega
 have hK14:K<=14:=by omega
 have hKM:K=0\/1<=M:=by omega
 rw[hK];have HKK:=hid hK;clear hK;have HMm:=hid hMm;have HBB:=hid hbb;clear hMm;obtain⟨w0,hw0⟩:∃w0,(w.alloc (.cells (setC A n cap ⟨sh,ra,mo,m,ba,mi,st,bu,ch,wi,ca⟩ Ab nb cb Ag ng cg) 236)).alloc (.cells #[.int .i64 lo,.int .i64 hi] 218)=w0:=⟨_,rfl⟩;have hB0:Below w.heap.size w w0:=by rw[<-hw0];exact(bA0 _).alloc (by simp) _
 have hS0:Blk w0 w.heap.size 236 (setC A n cap ⟨sh,ra,mo,m,ba,mi,st,bu,ch,wi,ca⟩ Ab nb cb Ag ng cg):=by rw[<-hw0];exact(Blk.new _ _ _).alloc _
 have hG0:Blk w0 (w.heap.size+1) 218 #[.int .i64 lo,.int .i64 hi]:=by rw[<-hw0];exact Blk.new' _ _ (by simp)
 have HS0:=hid hS0;have HG0:=hid hG0;have HST0:=hid (hst.call hB0);have HB0:=hid hB0;have HR0:=hid (hb.below hB0);have HW0:=hid hw0;have hz0:base<=w0.heap.size:=YaH hbase hB0.size;obtain⟨sb,hsb⟩:∃sb,w.heap.size=sb:=⟨_,rfl⟩;have c4:w0.cell? ⟨w.heap.size,4,none⟩=some (.int .i64 m):=hS0.cell 4;have ls:=hS0.lt;have lg:=hG0.lt;clear hS0 hG0 hst hB0 hb hw0 hbb
 go_enter func185,ntmps185
 go_wp2_with fail;rw[HW0.out];rw[hsb] at HS0 HG0;clear c4 ls lg
 go_loopw [19] (fun v wr=>∃q:Nat,q<=K/\v=.int .i64 q/\ZlC base gl t (L++pc.rndI x t lo (hi-lo) q) wr/\KI base w0 wr) (fun v _=>K-(intOf v).toNat)
 case atStart=>exact⟨0,by omega,rfl,by simpa [PlC.rndI] using HST0.out,KI.refl _ _⟩
 case round=>
  obtain⟨q,hq,rfl,hst,hk⟩:=hrel
  by_cases hlt:q<K
  ·have HQL:=hid (HRL.out q);have hql:q*((hi-lo)*2000)<=14*120000:=Nat.mul_le_mul (by omega) (by omega);have hqq:=HQL.out;have HST:=hid hst;have HK:=hid hk;have HSb:=hid (hk.blk HS0.out (by decide) (by decide));have HGb:=hid (hk.blk HG0.out (by decide) (by decide));have g0:wr.cell? ⟨sb+1,0,none⟩=some (.int .i64 lo):=HGb.out.cell 0;have lg:=HGb.out.lt;have i1:(q:Int)<(K:Int):=by omega
   obtain⟨wo,hwo⟩:∃wo:World,wo=wr:=⟨_,rfl⟩;subst hwo;clear hst hk;have hM0:1<=M:=by omega
   have zn:¬M=0:=by omega
   have hdq1:q/M<=q:=Nat.div_le_self _ _;have hdq2:q%M<M:=Nat.mod_lt _ (by omega);have HSu:=HRS.out q;obtain⟨d,hd⟩:∃d,q/M=d:=⟨_,rfl⟩;obtain⟨r,hr⟩:∃r,q%M=r:=⟨_,rfl⟩;rw[hd,hr] at HSu;rw[hd] at hdq1;rw[hr] at hdq2;have hqi:(q:Int)/(M:Int)=(d:Int):=by rw[<-hd];rfl
   have hri:(q:Int).tmod (M:Int)=(r:Int):=by rw[<-hr];rfl
   have zq:IntKind.i64.wrap ((q:Int)/(M:Int))=(d:Int):=by rw[hqi];exact ZcZ _ (by omega) (by omega)
   replace HSu:=hid HSu
   clear hqi hd hr hqq;go_wp2_with fail;obtain⟨L1,hL1⟩:∃L1,L++pc.rndI x t lo (hi-lo) q=L1:=⟨_,rfl⟩;have hL1l:L1.length<=201680000:=by rw[<-hL1,YaS];have:=HQL.out;omega
   rw[hL1] at HST;have HL1:=hid hL1;have HJ0:Hid (pc.jobsI x t lo 0 (d:Int) (r:Int)=[]):=hid rfl;have hcl:∃kk,hi-lo=kk:=⟨_,rfl⟩;clear hL1 g0 lg hcl
   go_loopw [9] (fun v wr=>∃j:Nat,lo<=j/\j<=hi/\v=.int .i64 j/\ZlC base gl t (L1++pc.jobsI x t lo (j-lo) (d:Int) (r:Int)) wr/\KI base w0 wr) (fun v _=>hi-(intOf v).toNat)
   case atStart=>exact⟨lo,by omega,hlo,rfl,by rw[Nat.sub_self,HJ0.out,List.append_nil];exact HST.out,HK.out⟩
   case round=>
    obtain⟨j,hj1,hj2,rfl,hst,hk⟩:=hrel;have HSb:=hid (hk.blk HS0.out (by decide) (by decide));have HGb:=hid (hk.blk HG0.out (by decide) (by decide));have g1:wr.cell? ⟨sb+1,1,none⟩=some (.int .i64 hi):=HGb.out.cell 1;have lg:=HGb.out.lt
    by_cases hjlt:j<hi
    ·obtain⟨A0,c0,hbl,hown,hbg⟩:=hst;have HST:=hid (show ZlC base gl t (L1++pc.jobsI x t lo (j-lo) (d:Int) (r:Int)) wr from⟨A0,c0,hbl,hown,hbg⟩);have HK:=hid hk;obtain⟨g,o,a,b,rfl,hg,hab,d0,d1⟩:=Zdn HBL.out (HR0.out.base hk.2 HBB.out) (show j<nb by omega);have HJAj:=hid (HJA.out j (d:Int) (r:Int) a b hab);obtain⟨ha0,hab1,hb60⟩:=HBI.out j a b hab;have s4:wr.cell? ⟨sb,4,none⟩=some (.int .i64 m):=HSb.out.cell 4;have s9:wr.cell? ⟨sb,9,none⟩=some (.int .i64 ch):=HSb.out.cell 9;have s12:wr.cell? ⟨sb,12,none⟩=some (.slice (some ⟨g,o,none⟩) nb cb):=HSb.out.cell 12;have l0:wr.cell? ⟨gl,0,none⟩=some (.int .i64 t):=hbl.cell 0;have lls:=HSb.out.lt;have lll:=hbl.lt;have i2:(j:Int)<(hi:Int):=by omega
     have i3:(0:Int)<=(j:Int):=by omega
     have i4:(j:Int)<(nb:Int):=by omega
     have HRj:=hid (fun W=>ZoJ t j a b m ch x d r W ha0 hab1 (by omega) (by omega) (by omega) (by omega));have hle:=ZuZ t j a b m ch x d r ha0 hab1 (by omega) (by omega);obtain⟨R,hR⟩:∃R,rY t j a b m ch x d r=R:=⟨_,rfl⟩;rw[hR] at HRj hle HJAj;obtain⟨nr,hnr⟩:∃nr,R.length=nr:=⟨_,rfl⟩;rw[hnr] at HRj hle;have HNR:=hid hnr;have hzr:base<=wr.heap.size:=YaH hz0 hk.2.size;have HJS:Hid (pc.jobsI x t lo (j+1-lo) (d:Int) (r:Int)=pc.jobsI x t lo (j-lo) (d:Int) (r:Int)++R.map (ZhE t)):=hid (by
      rw[show j+1-lo=(j-lo)+1 by omega,pc.jobsI_succ,show lo+(j-lo)=j by omega,HJAj.out])
     have hjl:=HJL.out (j-lo) (d:Int) (r:Int);obtain⟨L2,hL2⟩:∃L2,L1++pc.jobsI x t lo (j-lo) (d:Int) (r:Int)=L2:=⟨_,rfl⟩;have hL2l:L2.length<=202000000:=by rw[<-hL2,YaS];omega
     rw[hL2] at HST;have HL2:=hid hL2;have HJB:Hid (∀W,wr.alloc (.cells #[.int .i64 t,.int .i64 j,.int .i64 a,.int .i64 b,.int .i64 m,.int .i64 ch] 380)=W->Below wr.heap.size wr W/\Blk W wr.heap.size 380 #[.int .i64 t,.int .i64 j,.int .i64 a,.int .i64 b,.int .i64 m,.int .i64 ch]):=hid (by
      rintro W rfl;exact⟨bA0 _,Blk.new _ _ _⟩)
     clear hbl hown hk hab hR hnr hjl hL2;go_wp2_with fail;go_region;go_wp2_with fail;obtain⟨w1,hw1⟩:∃w1,wr.alloc (.cells #[.int .i64 t,.int .i64 j,.int .i64 a,.int .i64 b,.int .i64 m,.int .i64 ch] 380)=w1:=⟨_,rfl⟩;obtain⟨hb1,hj1b⟩:=HJB.out _ hw1;rw[hw1];clear hw1 HJB s4 s9 s12 l0 d0 d1 g1 lg lll lls;have hS1:=HSb.out.kept hb1;have s4:w1.cell? ⟨sb,4,none⟩=some (.int .i64 m):=hS1.cell 4;have lls:=hS1.lt;have j0:w1.cell? ⟨wr.heap.size,0,none⟩=some (.int .i64 t):=hj1b.cell 0;have j1:w1.cell? ⟨wr.heap.size,1,none⟩=some (.int .i64 j):=hj1b.cell 1;have j2:w1.cell? ⟨wr.heap.size,2,none⟩=some (.int .i64 a):=hj1b.cell 2;have j3:w1.cell? ⟨wr.heap.size,3,none⟩=some (.int .i64 b):=hj1b.cell 3;have j4:w1.cell? ⟨wr.heap.size,4,none⟩=some (.int .i64 m):=hj1b.cell 4;have j5:w1.cell? ⟨wr.heap.size,5,none⟩=some (.int .i64 ch):=hj1b.cell 5;have llj:=hj1b.lt;have HB1:=hid hb1;clear hS1 hj1b hb1
     as_aux_lemma=>
      refine Zad (Zag w1) [0,1,2,3,4,5,6,7,8,9,10,11,12,13,16] [14,15] [] (by kernel_rfl) (by kernel_rfl) (Zag.start w1).drew ?_;simp only[YaO,YaP,YaB,YaC];refine Zaa (Zkz t j a b m ch) rfl (fun W hW=>?_) ?_
      ·obtain⟨hc,-,-⟩:=hW;go_simp
      go_simp;refine Zaa (.int .i64 x) rfl (fun W hW=>?_) ?_
      ·obtain⟨hc,-,-⟩:=hW;go_simp
      go_simp;refine Zaa (.int .i64 q) rfl (fun W hW=>?_) ?_
      ·obtain⟨hc,-,-⟩:=hW;go_simp
      go_simp;refine Zaa (.pointer (some ⟨sb,0,none⟩)) rfl (fun W hW=>?_) ?_
      ·obtain⟨hc,-,-⟩:=hW;go_simp
      go_simp;refine Zaa (.pointer (some ⟨sb,4,none⟩)) rfl (fun W hW=>?_) ?_
      ·obtain⟨hc,-,-⟩:=hW;go_simp
      go_simp;refine Zaa (.int .i64 m) rfl (fun W hW=>?_) ?_
      ·obtain⟨hc,-,-⟩:=hW;go_simp
      go_simp;refine Zaa (.int .i64 M) rfl (fun W hW=>?_) ?_
      ·obtain⟨hc,-,-⟩:=hW;go_simp
      go_simp;refine Zaa (.int .i64 d) rfl (fun W hW=>?_) ?_
      ·obtain⟨hc,-,-⟩:=hW;go_simp
      go_simp;refine Zaa (.int .i64 q) rfl (fun W hW=>?_) ?_
      ·obtain⟨hc,-,-⟩:=hW;go_simp
      go_simp;refine Zaa (.pointer (some ⟨sb,0,none⟩)) rfl (fun W hW=>?_) ?_
      ·obtain⟨hc,-,-⟩:=hW;go_simp
      go_simp;refine Zaa (.pointer (some ⟨sb,4,none⟩)) rfl (fun W hW=>?_) ?_
      ·obtain⟨hc,-,-⟩:=hW;go_simp
      go_simp;refine Zaa (.int .i64 m) rfl (fun W hW=>?_) ?_
      ·obtain⟨hc,-,-⟩:=hW;go_simp
      go_simp;refine Zaa (.int .i64 M) rfl (fun W hW=>?_) ?_
      ·obtain⟨hc,-,-⟩:=hW;go_simp
      go_simp;refine Zaa (.int .i64 r) rfl (fun W hW=>?_) ?_
      ·obtain⟨hc,-,-⟩:=hW;go_simp
      go_simp;refine Zaa (.int .i64 0) rfl (fun W hW=>?_) ?_
      ·obtain⟨hc,-,-⟩:=hW;go_simp
      go_simp;change Zah _ _ _ _ _ (_::_::[]) _ _;unfold Zah;go_wp2_with fail;((with_reducible refine(HRj.out _).mono ?_);rintro e w2 ⟨A2,c2,rfl,hown2,hb2⟩);have hb2':Below w1.heap.size w1 w2:=((Zag.start w1).drew.call hb2).2.2;have HR2:=hid hown2;have HB2:=hid hb2';have HST2:=hid ((HST.out.call HB1.out).call hb2');have HK2:=hid ((HK.out.trans (KI.call HB1.out hzr)).trans (KI.call hb2' (YaH hzr HB1.out.size)));have hz2:base<=w2.heap.size:=HK2.out.2.size |> YaH hz0;clear hown2 hb2 hb2' j0 j1 j2 j3 j4 j5 s4 lls llj;go_wp2_with fail;refine⟨Zag.of HB2.out,?_⟩;unfold Zah;go_wp2_with fail;refine⟨Zag.of HB2.out,?_⟩;unfold Zah;change wpList _ _ _ [] _ _;go_wp2_with fail;refine NoPanic.normal ?_;go_wp2_with fail;obtain⟨wz,hwz⟩:∃wz:World,wz=wr:=⟨_,rfl⟩;rw[<-hwz] at HB1;clear hwz
      go_loopw [63] (fun v wr=>∃i:Nat,i<=nr/\v=.int .i64 i/\ZlC base gl t (L2++(R.take i).map (ZhE t)) wr/\KI base w2 wr) (fun v _=>nr-(intOf v).toNat)
      case atStart=>exact⟨0,by omega,rfl,by simpa using HST2.out,KI.refl _ _⟩
      case round=>
       obtain⟨i,hi',rfl,hst3,hk3⟩:=hrel;have HST3:=hid hst3;have HK3:=hid hk3
       by_cases hilt:i<nr
       ·obtain⟨g2,o2,sd,ad,s,bk,p,r2,e,u,v,rfl,hg2,hR2,a0,a1,a2,a3,a4,a5,a6,a7,a8⟩:=Zkf HNR.out (Rd.of_own (hk3.1.own hk3.2.size HR2.out (by decide) (by decide))) hilt;have i5:(i:Int)<(nr:Int):=by omega
        have i6:(0:Int)<=(i:Int):=by omega
        have HTK:Hid ((R.take (i+1)).map (ZhE t)=(R.take i).map (ZhE t)++[ZhE t ((sd,ad),(s,bk,p,r2,e),(u,v))]):=hid (by
         have hlt':i<R.length:=by rw[HNR.out];exact hilt
         rw[Zbd _ _ hlt',List.map_append];rw[YaA hlt'] at hR2;injection hR2 with hR2
         rw[hR2];rfl)
        have hbr:base<=wr.heap.size:=YaH hz2 hk3.2.size;have hlen:(L2++(R.take i).map (ZhE t)).length<=1000000000:=by
         rw[YaS,List.length_map,List.length_take];omega
        have HAD:=hid (fun(kind:Int) (W:World) (hb:Below wr.heap.size wr W)=>Znz kind 0 t ((sd,ad),(s,bk,p,r2,e),(u,v)) base gl (L2++(R.take i).map (ZhE t)) W (HST3.out.call hb) hlen (YaH hbr hb.size));dsimp only at HAD;clear hst3 hk3 hR2
        cases sd
        ·as_aux_lemma=>
          go_wp2_with fail;obtain⟨w3,hw3⟩:∃w3,wr.alloc (.cells #[.bool false,.bool ad,.int .i64 s,.int .i64 bk,.int .i64 p,.int .i64 r2,.int .i64 e,.int .i64 u,.int .i64 v] 220)=w3:=⟨_,rfl⟩;have hb3:Below wr.heap.size wr w3:=by rw[<-hw3];exact bA0 _
          rw[hw3];((with_reducible refine(HAD.out 4 w3 hb3).mono ?_);rintro e w4 ⟨rfl,hst4,hk4⟩);have HST4:=hid hst4;have HK4:=hid ((HK3.out.trans (KI.call hb3 hbr)).trans hk4);clear hst4 hk4 hw3 hb3 HAD;go_wp2_with fail
          go_roundw
          case rel=>exact⟨i+1,by omega,by go_num,by rw[HTK.out,<-YaY];exact HST4.out,HK4.out⟩
          case measure=>simp[intOf];omega
        ·as_aux_lemma=>
          go_wp2_with fail;obtain⟨w3,hw3⟩:∃w3,wr.alloc (.cells #[.bool true,.bool ad,.int .i64 s,.int .i64 bk,.int .i64 p,.int .i64 r2,.int .i64 e,.int .i64 u,.int .i64 v] 220)=w3:=⟨_,rfl⟩;have hb3:Below wr.heap.size wr w3:=by rw[<-hw3];exact bA0 _
          rw[hw3];((with_reducible refine(HAD.out 3 w3 hb3).mono ?_);rintro e w4 ⟨rfl,hst4,hk4⟩);have HST4:=hid hst4;have HK4:=hid ((HK3.out.trans (KI.call hb3 hbr)).trans hk4);clear hst4 hk4 hw3 hb3 HAD;go_wp2_with fail
          go_roundw
          case rel=>exact⟨i+1,by omega,by go_num,by rw[HTK.out,<-YaY];exact HST4.out,HK4.out⟩
          case measure=>simp[intOf];omega
       ·obtain rfl:i=nr:=by omega
        have HTA:Hid (R.take i=R):=hid (YaX (by rw[HNR.out];omega));clear hst3 hk3;go_wp2_with fail
        go_roundw
        case rel=>exact⟨j+1,by omega,by omega,by go_num,by rw[HJS.out,<-YaY,HL2.out,<-HTA.out];exact HST3.out,HK2.out.trans HK3.out⟩
        case measure=>simp[intOf];omega
    ·obtain rfl:j=hi:=by omega
     have HST:=hid hst;have HK:=hid hk;clear hst hk;go_wp2_with fail
     go_roundw
     case rel=>exact⟨q+1,by omega,by go_num,by rw[HSu.out,<-YaY,HL1.out];exact HST.out,HK.out⟩
     case measure=>simp[intOf];omega
  ·obtain rfl:q=K:=by omega
   have HST:=hid hst;have HK:=hid hk;clear hst hk;go_wp2_with fail
   go_end0
   exact⟨rfl,HST.out,(Zcx.of_below HB0.out).trans HK.out.1,(HB0.out.mono hbase).trans HK.out.2⟩
end
theorem Zgg(kind k t:Int)(base gl:Nat)(L:List ZaH)(w:World)(hst:ZlC base gl t L w)(hL:L.length<=1000000000)(hbase:base<=w.heap.size) :
  Calls prog 184 #[.pointer (some ⟨gl,0,none⟩),.int .i64 kind,.int .i64 k,.agg #[.bool false,.bool false,.int .i64 0,.int .i64 0,.int .i64 0,.int .i64 0,.int .i64 0,.int .i64 0,.int .i64 0]] w (Zw7 base gl t (L++[Zb4 kind t k]) w):=
 Znz kind k t Zu0 base gl L w hst hL hbase
section
variable(pc:PlC)(c:Cfg)(A:Option Addr)(n cap:Nat)(Ab:Option Addr)(cb:Nat)(Ag:Option Addr)(cg:Nat)(x t:Int)(w:World)
theorem ZgM(hp:pc.Ok)(hwk:c.wk=pc.m)(hch:c.ch=pc.ch)(hmi:c.mi=pc.mi)
  (hb:Rd w 2 Ab pc.nb (rv pc.bks)) (hg:Rd w 2 Ag (cnt pc.nb pc.wi) (rv pc.grps)) :
  Calls prog 110 #[Zw9 A n cap c Ab pc.nb cb Ag (cnt pc.nb pc.wi) cg,.int .i64 x,.int .i64 t] w (Zal w 222 12 (pc.itemsI x t).length (ZaJ (pc.itemsI x t))):=by
 obtain⟨base,hbase⟩:∃base,w.heap.size=base:=⟨_,rfl⟩;have hbb:∀b o,Ab=some ⟨b,o,none⟩->b<base:=fun b o e=>by rw[<-hbase];exact hb.lt b o e (PlC.nb_pos hp)
 obtain⟨w0,hw0⟩:∃w0,(w.alloc (.cells (setC A n cap c Ab pc.nb cb Ag (cnt pc.nb pc.wi) cg) 236)).alloc (.cells #[.int .i64 t,.slice none 0 0] 326)=w0:=⟨_,rfl⟩;have hB0:Below w.heap.size w w0:=by rw[<-hw0];exact(bA0 _).alloc (by simp) _
 have hS0:Blk w0 w.heap.size 236 (setC A n cap c Ab pc.nb cb Ag (cnt pc.nb pc.wi) cg):=by rw[<-hw0];exact(Blk.new _ _ _).alloc _
 have hL0:Blk w0 (w.heap.size+1) 326 #[.int .i64 t,.slice none 0 0]:=by rw[<-hw0];exact Blk.new' _ _ (by simp)
 have HR0:=hid (hb.below hB0);have HGR0:=hid (hg.below hB0);have HGL:=hid (hg.lt);have hns:base<=w0.heap.size:=by rw[<-hbase];exact hB0.size
 have HRo:=hid (fun(lo hi:Nat) (L:List ZaH) (W:World) h1 h2 h3 h4 h5 h6=>ZkF pc c A n cap Ab cb Ag (cnt pc.nb pc.wi) cg x t lo hi base (base+1) L W hp hwk hch h1 h2 h3 h4 h5 h6 hbb);have HST0:Hid (ZlC base (base+1) t [] w0):=hid ⟨none,0,by rw[<-hbase];exact hL0,by simpa [Zia] using World.ownsRow_nil w0 base 222 12,by omega⟩;obtain⟨sh,ra,mo,wk,ba,mi,st,bu,ch,wi,ca⟩:=c;simp only at hwk hch hmi;subst hwk hch hmi;have hi2:=hp.i2;have hnb2:=PlC.nb_le hp;have HGI:=hid (fun(k:Nat) (a b:Int) (h:pc.grps[k]?=some (a,b))=>PlC.grps_in h);have HGS:=hid (fun(k:Nat) (a b:Int) (h:pc.grps[k]?=some (a,b))=>pc.grpsI_succ x t k (a,b) h);have HGE:=hid (fun(k:Nat) (h:k<=cnt pc.nb pc.wi)=>pc.grpsI_le hp x t k h);have HRL:=hid (fun(lo k:Nat) (h:k<=60)=>pc.groupI_le hp x t lo k h);have HIT:Hid (pc.itemsI x t=ZaE 1 t 0 pc.mi++pc.grpsI x t (cnt pc.nb pc.wi)++[Zb4 6 t 0]):=hid rfl;have hng:cnt pc.nb pc.wi<=60:=YaH (Zci _ _) hnb2;have HGLen:=hid pc.grps_length;obtain⟨ng,hngd⟩:∃ng,cnt pc.nb pc.wi=ng:=⟨_,rfl⟩;obtain⟨m,hm⟩:∃m,pc.m=m:=⟨_,rfl⟩;obtain⟨chv,hchv⟩:∃ch,pc.ch=ch:=⟨_,rfl⟩;obtain⟨mi,hmi⟩:∃mi,pc.mi=mi:=⟨_,rfl⟩;obtain⟨nb,hnb⟩:∃nb,pc.nb=nb:=⟨_,rfl⟩;rw[hngd] at hS0 HGR0 HGL HRo HGE HIT hng HGLen hw0;rw[hnb] at hS0 HR0 HRo hnb2 hw0 HGI;rw[hm] at hS0 HRo hw0;rw[hchv] at hS0 HRo hw0;rw[hmi] at hS0 HRo hi2 HIT hw0;rw[hngd,hnb,hm,hchv,hmi];have HS0:=hid hS0;have HB0:=hid hB0;have HW0:=hid hw0;have c6:w0.cell? ⟨w.heap.size,6,none⟩=some (.int .i64 mi):=hS0.cell 6;have ls:=hS0.lt;have HBB:=hid hbb;have HM:=hid hm;clear hb hg hngd hm hchv hmi hnb hS0 hL0 hB0 hw0 hbb
 go_enter func110,ntmps110
 go_wp2_with fail;rw[HW0.out];rw[hbase] at HS0;clear c6 ls HW0
 go_loopw [22] (fun v wr=>∃i:Nat,i<=mi/\v=.int .i64 i/\ZlC base (base+1) t (ZaE 1 t 0 i) wr/\KI base w0 wr) (fun v _=>mi-(intOf v).toNat)
 case atStart=>exact⟨0,by omega,rfl,by simpa [ZaE] using HST0.out,KI.refl _ _⟩
 case round=>
  obtain⟨i,hi,rfl,hst,hk⟩:=hrel
  by_cases hlt:i<mi
  ·as_aux_lemma=>
    have i1:(i:Int)<(mi:Int):=by omega
    have HAD:=hid (Zgg 1 i t base (base+1) _ wr hst (by rw[Zaq];omega) (YaH hns hk.2.size));have HK:=hid hk;clear hst hk;go_wp2_with fail;((with_reducible refine HAD.out.mono ?_);rintro e w1 ⟨rfl,hst1,hk1⟩);have HST1:=hid hst1;have HK1:=hid (HK.out.trans hk1);clear hst1 hk1 HAD;go_wp2_with fail
    go_roundw
    case rel=>exact⟨i+1,by omega,by go_num,by rw[ZbT,Nat.zero_add];exact HST1.out,HK1.out⟩
    case measure=>simp[intOf];omega
  ·obtain rfl:i=mi:=by omega
   have HST:=hid hst;have HK:=hid hk;have HSb:=hid (hk.blk HS0.out (by decide) (by decide));have c2:wr.cell? ⟨base,13,none⟩=some (.slice Ag ng cg):=HSb.out.cell 13;have lsb:=HSb.out.lt;clear hst hk;go_wp2_with fail;clear c2 lsb HSb;obtain⟨wo,hwo⟩:∃wo:World,wo=wr:=⟨_,rfl⟩;subst hwo
   go_loopw [33] (fun v wr=>∃k:Nat,k<=ng/\v=.int .i64 k/\ZlC base (base+1) t (ZaE 1 t 0 i++pc.grpsI x t k) wr/\KI base w0 wr) (fun v _=>ng-(intOf v).toNat)
   case atStart=>exact⟨0,by omega,rfl,by simpa [PlC.grpsI] using HST.out,HK.out⟩
   case round=>
    obtain⟨k,hk1,rfl,hst,hk⟩:=hrel
    by_cases hlt2:k<ng
    ·as_aux_lemma=>
      have HGE1:=HGE.out k (by omega);obtain⟨L1,hL1⟩:∃L1,ZaE 1 t 0 i++pc.grpsI x t k=L1:=⟨_,rfl⟩;have hL1l:L1.length<=110000000:=by rw[<-hL1,YaS,Zaq];omega
      have HL1:=hid hL1;rw[hL1] at hst;have HST:=hid hst;have HK:=hid hk;have hGR:=HGR0.out.base hk.2 (fun b o e=>by rw[<-hbase];exact HGL.out b o e (by omega));obtain⟨g,o,a,b,rfl,hg,hab,d0,d1⟩:=Zdn HGLen.out hGR hlt2;have hin:=HGI.out k a b hab;have HGSk:=HGS.out k a b hab;obtain⟨lo,rfl⟩:=YaM hin.1;obtain⟨hi,rfl⟩:=YaM (show 0<=b by omega);have hlh:lo<=hi:=by omega
      have HHN:Hid (hi<=nb):=hid (by omega);have h60:hi<=60:=by have:=HHN.out;omega
      have HG:Hid (pc.grpsI x t (k+1)=pc.grpsI x t k++(ZaE 2 t lo (hi-lo)++pc.rndI x t lo (hi-lo) (2*(m-1))++ZaE 5 t lo (hi-lo))):=hid (by
       rw[HGSk,<-HM.out];simp only[PlC.groupG,PlC.groupI,Int.toNat_natCast,show ((hi:Int)-(lo:Int)).toNat=hi-lo by omega])
      have hgl:=HRL.out lo (hi-lo) (by omega);simp only[PlC.groupI,YaS,Zaq] at hgl;rw[HM.out] at hgl;have HGLL:=hid hgl;have hz:base<=wr.heap.size:=YaH hns hk.2.size;have HNB:Hid (∀W,wr.alloc (.cells #[.int .i64 lo,.int .i64 hi] 218)=W->Below wr.heap.size wr W/\Blk W wr.heap.size 218 #[.int .i64 lo,.int .i64 hi]):=hid (by
       rintro W rfl;exact⟨bA0 _,Blk.new _ _ _⟩)
      have i1:(k:Int)<(ng:Int):=by omega
      have i2:(0:Int)<=(k:Int):=by omega
      have lg:g<wr.heap.size:=hg;clear hst hk hGR hab hin HGSk hL1 hgl;go_wp2_with fail;obtain⟨w1,hw1⟩:∃w1,wr.alloc (.cells #[.int .i64 lo,.int .i64 hi] 218)=w1:=⟨_,rfl⟩;obtain⟨hb1,hr1⟩:=HNB.out _ hw1;rw[hw1];have HST1:=hid (HST.out.call hb1);have HK1:=hid (HK.out.trans (KI.call hb1 hz));have HR1:=hid hr1;have hz1:base<=w1.heap.size:=YaH hz hb1.size;obtain⟨gb,hgb⟩:∃gb,wr.heap.size=gb:=⟨_,rfl⟩;rw[hgb] at HR1 ⊢;clear hgb hw1 hb1 hr1 HNB d0 d1 lg HST HK
      go_loopw [12] (fun v wr=>∃j:Nat,lo<=j/\j<=hi/\v=.int .i64 j/\ZlC base (base+1) t (L1++ZaE 2 t lo (j-lo)) wr/\KI base w1 wr) (fun v _=>hi-(intOf v).toNat)
      case atStart=>exact⟨lo,by omega,hlh,rfl,by rw[Nat.sub_self];simpa [ZaE] using HST1.out,KI.refl _ _⟩
      case round=>
       obtain⟨j,hj1,hj2,rfl,hst,hk⟩:=hrel;have HRj:=hid (hk.blk HR1.out (by decide) (by decide));have r1:wr.cell? ⟨gb,1,none⟩=some (.int .i64 hi):=HRj.out.cell 1;have lgb:=HRj.out.lt
       by_cases hjlt:j<hi
       ·as_aux_lemma=>
         have i3:(j:Int)<(hi:Int):=by omega
         have HAD:=hid (Zgg 2 j t base (base+1) _ wr hst (by rw[YaS,Zaq];omega) (YaH hz1 hk.2.size));have HK:=hid hk;clear hst hk HRj;go_wp2_with fail;((with_reducible refine HAD.out.mono ?_);rintro e w2 ⟨rfl,hst1,hk1⟩);have HST1:=hid hst1;have HK1:=hid (HK.out.trans hk1);clear hst1 hk1 HAD;go_wp2_with fail
         go_roundw
         case rel=>exact⟨j+1,by omega,by omega,by go_num,by rw[show j+1-lo=(j-lo)+1 by omega,ZbT,show lo+(j-lo)=j by omega,<-YaY];exact HST1.out,HK1.out⟩
         case measure=>simp[intOf];omega
       ·obtain rfl:j=hi:=by omega
        as_aux_lemma=>
         have HST:=hid hst;have HK:=hid hk;have hSb:=(HK1.out.trans hk).blk HS0.out (by decide) (by decide);have r0:wr.cell? ⟨gb,0,none⟩=some (.int .i64 lo):=HRj.out.cell 0;obtain⟨s0,s1,s2,s3,s4,s5,s6,s7,s8,s9,s10,s11,s12,s13⟩:=cl14 hSb;have lsb:=hSb.lt;have HRW:=hid (HRo.out lo j _ wr hlh HHN.out hst (by rw[YaS,Zaq];omega) (YaH hz1 hk.2.size) (HR0.out.base (HK1.out.trans hk).2 HBB.out));have HK2:=hid (HK1.out.trans HK.out);clear hst hk hSb;go_wp2_with fail;((with_reducible refine HRW.out.mono ?_);rintro e w2 ⟨rfl,hst2,hk2⟩);clear s0 s1 s2 s3 s4 s5 s6 s7 s8 s9 s10 s11 s12 s13 lsb r0 r1 lgb;have HST2:=hid hst2;have HK3:=hid (HK2.out.trans hk2);have HR2:=hid (KI.blk hk2 HRj.out (by decide) (by decide));have r0:w2.cell? ⟨gb,0,none⟩=some (.int .i64 lo):=HR2.out.cell 0;have lgb:=HR2.out.lt;have hz2:base<=w2.heap.size:=YaH hns HK3.out.2.size;obtain⟨L2,hL2⟩:∃L2,L1++ZaE 2 t lo (j-lo)++pc.rndI x t lo (j-lo) (2*(m-1))=L2:=⟨_,rfl⟩;have hL2l:L2.length<=120000000:=by rw[<-hL2,YaS,YaS,Zaq];have:=HGLL.out;omega
         rw[hL2] at HST2;have HL2:=hid hL2;clear hst2 hk2 hL2 HRW HST HRj;go_wp2_with fail;clear r0 lgb
         go_loopw [13] (fun v wr=>∃q:Nat,lo<=q/\q<=j/\v=.int .i64 q/\ZlC base (base+1) t (L2++ZaE 5 t lo (q-lo)) wr/\KI base w2 wr) (fun v _=>j-(intOf v).toNat)
         case atStart=>exact⟨lo,by omega,hlh,rfl,by rw[Nat.sub_self];simpa [ZaE] using HST2.out,KI.refl _ _⟩
         case round=>
          obtain⟨q,hq1,hq2,rfl,hst,hk⟩:=hrel;have HRj:=hid (hk.blk HR2.out (by decide) (by decide));have r1:wr.cell? ⟨gb,1,none⟩=some (.int .i64 j):=HRj.out.cell 1;have lgb:=HRj.out.lt
          by_cases hqlt:q<j
          ·as_aux_lemma=>
            have i3:(q:Int)<(j:Int):=by omega
            have HAD:=hid (Zgg 5 q t base (base+1) _ wr hst (by rw[YaS,Zaq];omega) (YaH hz2 hk.2.size));have HK:=hid hk;clear hst hk HRj;go_wp2_with fail;((with_reducible refine HAD.out.mono ?_);rintro e w2 ⟨rfl,hst1,hk1⟩);have HST1:=hid hst1;have HK1:=hid (HK.out.trans hk1);clear hst1 hk1 HAD;go_wp2_with fail
            go_roundw
            case rel=>exact⟨q+1,by omega,by omega,by go_num,by rw[show q+1-lo=(q-lo)+1 by omega,ZbT,show lo+(q-lo)=q by omega,<-YaY];exact HST1.out,HK1.out⟩
            case measure=>simp[intOf];omega
          ·obtain rfl:q=j:=by omega
           have HST:=hid hst;have HK:=hid hk;clear hst hk HRj;go_wp2_with fail
           go_roundw
           case rel=>exact⟨k+1,by omega,by go_num,by rw[HG.out,<-YaY,<-YaY,<-YaY,HL1.out,HL2.out];exact HST.out,HK3.out.trans HK.out⟩
           case measure=>simp[intOf];omega
    ·obtain rfl:k=ng:=by omega
     as_aux_lemma=>
      have HAD:=hid (Zgg 6 0 t base (base+1) _ wr hst (by have:=HGE.out k (YaF _);rw[YaS,Zaq];omega) (YaH hns hk.2.size));have HK:=hid hk;clear hst hk;go_wp2_with fail;((with_reducible refine HAD.out.mono ?_);rintro e w1 ⟨rfl,hst1,hk1⟩);obtain⟨A0,c0,hbl,hown,hbg⟩:=hst1;rw[<-HIT.out] at hbl hown;have HOW:=hid hown;have HK1:=hid (HK.out.trans hk1);have e1:w1.cell? ⟨base+1,1,none⟩=some (.slice A0 (pc.itemsI x t).length c0):=hbl.cell 1;have ll:=hbl.lt;obtain⟨nI,hnI⟩:∃nI,(pc.itemsI x t).length=nI:=⟨_,rfl⟩;rw[hnI] at e1 HOW;have HNI:=hid hnI;clear hbl hown hk1 hnI HAD HK;go_wp2_with fail;go_ret;rw[HNI.out];exact⟨A0,c0,rfl,by rw[hbase];exact HOW.out,HB0.out.trans (by rw[hbase];exact HK1.out.2)⟩
end
def PlC.lensL(pc:PlC):List Int:=(List.range pc.m).map fun(i:Nat)=>((pc.itemsI (i:Int) 0).length:Int)
theorem PlC.lensL_length(pc:PlC):pc.lensL.length=pc.m:=by simp[PlC.lensL]
theorem PlC.lensL_at(pc:PlC)(k:Nat)(h:k<pc.m):pc.lensL[k]?=some ((pc.itemsI (k:Int) 0).length:Int):=by simp[PlC.lensL,h]
abbrev ZkG(A:Option Addr)(n cap:Nat)(c:Cfg)(Ab:Option Addr)(nb cb:Nat)(Ag:Option Addr)(ng cg:Nat)(lv:Value):Array Value:=#[.slice A n cap,.int .i64 c.sh,.int .i64 c.ra,.int .i64 c.mo,.int .i64 c.wk,.int .i64 c.ba,.int .i64 c.mi,.int .i64 c.st,.int .i64 c.bu,.int .i64 c.ch,.int .i64 c.wi,.int .i64 c.ca,.slice Ab nb cb,.slice Ag ng cg,lv]
def Zdx(w:World)(b:Nat)(pc:PlC)(c:Cfg)(A:Option Addr)(n cap:Nat):Prop:=∃Ab cb Ag cg Al cl,Blk w b 238 (ZkG A n cap c Ab pc.nb cb Ag (cnt pc.nb pc.wi) cg (.slice Al pc.m cl)) /\
 Rd w 2 Ab pc.nb (rv pc.bks)/\Rd w 2 Ag (cnt pc.nb pc.wi) (rv pc.grps)/\Rd w 1 Al pc.m (iv pc.lensL)/\pc.nb<=cb
theorem Zdx.kept{w w':World}{b:Nat}{pc:PlC}{c:Cfg}{A:Option Addr}{n cap:Nat}(h:Zdx w b pc c A n cap)(hb:Below w.heap.size w w'):Zdx w' b pc c A n cap:=by
 obtain⟨Ab,cb,Ag,cg,Al,cl,h1,h2,h3,h4,h5⟩:=h;exact⟨Ab,cb,Ag,cg,Al,cl,h1.kept hb,h2.below hb,h3.below hb,h4.below hb,h5⟩
theorem Zv5{w:World}{g:Nat}{t:TypeId}{a0 a1 a2 a3 a4 a5 a6 a7 a8 a9 a10 a11 a12 a13 a14:Value}(h:Blk w g t #[a0,a1,a2,a3,a4,a5,a6,a7,a8,a9,a10,a11,a12,a13,a14])(v:Value) :
  w.grownBy (w.setCell ⟨g,14,none⟩ v) (some g)/\Blk (w.setCell ⟨g,14,none⟩ v) g t #[a0,a1,a2,a3,a4,a5,a6,a7,a8,a9,a10,a11,a12,a13,v]:=
 ⟨Zak (p:=⟨g,14,none⟩) (World.grownBy.refl w _) (.inl rfl) v,by simpa using h.set_ 14 v⟩
theorem Zs9(x:Int):∀u∈(#[Value.int .i64 x]:Array Value).toList,u.oneCell'=true:=by
 intro u hu;simp at hu;subst hu;rfl
