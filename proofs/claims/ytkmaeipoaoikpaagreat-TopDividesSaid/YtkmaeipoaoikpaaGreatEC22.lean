/- Lemmas. -/
import Derived.Test.YtkmaeipoaoikpaaGreatEC21
namespace Go.Proofs.YtkmaeipoaoikpaaGreat
set_option linter.all false
set_option maxRecDepth 100000
set_option maxHeartbeats 4000000
open Lib (hid)
open Go.RowKit
open Tryz
theorem Zgv{c:PlC}{g:Int×Int}(h:g∈c.grps):0<=g.1/\g.1<=g.2/\g.2<=c.nb:=by
 obtain⟨i,hi,e⟩:=List.mem_iff_getElem.1 h;obtain⟨a,b,d,_⟩:=PlC.grps_in (c:=c) (j:=i) (x:=g) (by rw[YaA hi,e]);exact⟨a,b,d⟩
theorem Zpg{c:PlC}{s:Sl4}(hs:s∈c.stepS 60):(s.1=1/\s.2.2.1<c.mi)\/(s.1=2/\s.2.2.1<c.nb)\/(s.1=3/\s.2.2.1<c.nb)\/(s.1=4/\s.2.2.1<c.nb)\/(s.1=5/\s.2.2.1<c.nb)\/s.1=6:=by
 unfold PlC.stepS PlC.grpS Zst Zk8 at hs;simp only[List.mem_append,List.mem_map,List.mem_flatMap,List.mem_range,List.mem_singleton,List.mem_cons,List.not_mem_nil,or_false] at hs
 rcases hs with(⟨a,ha,rfl⟩|⟨g,hg,(⟨i,hi,rfl⟩|⟨k,hk,i,hi,b,_,rfl|rfl⟩)|⟨i,hi,rfl⟩⟩)|rfl
 ·exact .inl ⟨rfl,ha⟩
 ·have:=Zgv hg;exact .inr (.inl ⟨rfl,by dsimp only;omega⟩)
 ·have:=Zgv hg;exact .inr (.inr (.inl ⟨rfl,by dsimp only;omega⟩))
 ·have:=Zgv hg;exact .inr (.inr (.inr (.inl ⟨rfl,by dsimp only;omega⟩)))
 ·have:=Zgv hg;exact .inr (.inr (.inr (.inr (.inl ⟨rfl,by dsimp only;omega⟩))))
 ·exact .inr (.inr (.inr (.inr (.inr rfl))))
theorem Zfg:∀{l:List (Int×Int)} {e e':Int},Zbn l e e'->e<=e'/\∀x∈l,e<=x.1/\x.1<=x.2/\x.2<=e'
 |[],e,e',h=>by
  unfold Zbn at h;exact⟨by omega,fun x hx=>by cases hx⟩
 |y::l,e,e',h=>by
  unfold Zbn at h;obtain⟨h1,h2,h3⟩:=h;obtain⟨h4,h5⟩:=Zfg h3;refine⟨by omega,fun x hx=>?_⟩
  rcases List.mem_cons.1 hx with rfl|hx
  ·omega
  ·have:=h5 x hx;omega
theorem Zn2{c:PlC}(h:c.Ok)(hc:1<=c.ch){j q:Nat}(hq:q<c.m){x:Int×Int}(hx:x∈c.chk j q):0<=x.1/\x.1<=x.2/\x.2<=c.P:=by
 unfold PlC.chk at hx
 split at hx
 ·rename_i y hy
  obtain⟨h0,h1,h2⟩:=PlC.bks_in hy;obtain⟨a1,a2,a3⟩:=ZcD y.1 y.2 c.m q h1 (by omega);have:=(Zfg (Zf3 _ _ c.ch a2 hc)).2 x hx;omega
 ·cases hx
theorem Zha{c:PlC}{x:Nat}{t:Int}{s:Sl4}{it:ZaB}(hs:s∈c.stepS 60)(hi:c.itS x t s=some it) :
  (c.kdS x s=1/\it=Zb6 s.1 t (s.2.2.1:Int)/\((s.1=1/\s.2.2.1<c.mi)\/(s.1=2/\s.2.2.1<c.nb)\/(s.1=5/\s.2.2.1<c.nb)\/s.1=6)) \/
  (c.kdS x s=2/\s.1=3/\∃y,(c.chk s.2.2.1 (c.sq x s.2.1))[s.2.2.2]?=some y/\it=((3,t,0),((true,false),(t,(s.2.2.1:Int),c.ph s.2.1,c.rd s.2.1,(s.2.2.2:Int)),y))) \/
  (c.kdS x s=3/\s.1=4/\∃y,(c.chk s.2.2.1 (c.rq x s.2.1))[s.2.2.2]?=some y/\it=((4,t,0),((false,decide (c.ph s.2.1=0)),(t,(s.2.2.1:Int),c.ph s.2.1,c.rd s.2.1,(s.2.2.2:Int)),y))):=by
 have hk:=Zpg hs;unfold PlC.itS at hi;unfold PlC.kdS
 by_cases h3:s.1=3
 ·rw[if_pos h3] at hi ⊢;obtain⟨y,hy,e⟩:=Option.map_eq_some_iff.1 hi
  right;left
  exact⟨if_pos (ZbJ hy),h3,y,hy,e.symm⟩
 ·rw[if_neg h3] at hi ⊢
  by_cases h4:s.1=4
  ·rw[if_pos h4] at hi ⊢;obtain⟨y,hy,e⟩:=Option.map_eq_some_iff.1 hi
   right;right
   exact⟨if_pos (ZbJ hy),h4,y,hy,e.symm⟩
  ·rw[if_neg h4] at hi ⊢
   left
   injection hi with hi
   refine⟨rfl,hi.symm,?_⟩
   rcases hk with hk|hk|hk|hk|hk|hk
   ·exact .inl hk
   ·exact .inr (.inl hk)
   ·exact absurd hk.1 h3
   ·exact absurd hk.1 h4
   ·exact .inr (.inr (.inl hk))
   ·exact .inr (.inr (.inr hk))
theorem ZjO{c:PlC}{x p:Nat}{s:Sl4}(hs:(c.stepS 60)[p%c.sl]?=some s):c.kdN 60 x p=c.kdS x s:=by
 unfold PlC.kdN;unfold PlC.sl at hs;rw[hs]
theorem Zph{c:PlC}(h:c.Ok)(hc:1<=c.ch){K:MC}(hK:K.pc=c)(hP:K.NP=c.P){x:Nat}{t:Nat}(ht:t<=1000000){s:Sl4}{it:ZaB}(hs:s∈c.stepS 60)(hi:c.itS x (t:Int) s=some it):ZjH K it=true:=by
 have hm:=h.i2;have hq:=PlC.q_lt h x s.2.1
 rcases Zha hs hi with⟨_,e,hk⟩|⟨_,_,y,hy,e⟩|⟨_,_,y,hy,e⟩
 ·subst e;unfold ZjH Zb6;simp only[YaQ,decide_eq_true_eq,Bool.or_eq_true,Bool.not_eq_true',decide_eq_false_iff_not,Bool.or_eq_false_iff];rw[hK]
  rcases hk with⟨e,hk⟩|⟨e,hk⟩|⟨e,hk⟩|e<;>rw[e]<;>refine⟨⟨⟨⟨by omega,by omega⟩,?_⟩,?_⟩,?_⟩<;>first|(left;omega)|(right;omega)|(left;decide)|(left;exact⟨by decide,by decide⟩)
 ·subst e;have:=Zn2 h hc hq.1 (YaL hy);unfold ZjH;simp only[YaQ,decide_eq_true_eq,Bool.or_eq_true,Bool.not_eq_true',decide_eq_false_iff_not,Bool.or_eq_false_iff];rw[hP];refine⟨⟨⟨⟨by omega,by omega⟩,.inl (by decide)⟩,.inl (by decide)⟩,.inr ⟨⟨this.1,this.2.1⟩,this.2.2⟩⟩
 ·subst e;have:=Zn2 h hc hq.2 (YaL hy);unfold ZjH;simp only[YaQ,decide_eq_true_eq,Bool.or_eq_true,Bool.not_eq_true',decide_eq_false_iff_not,Bool.or_eq_false_iff];rw[hP];refine⟨⟨⟨⟨by omega,by omega⟩,.inl (by decide)⟩,.inl (by decide)⟩,.inr ⟨⟨this.1,this.2.1⟩,this.2.2⟩⟩
theorem ZtK{c:PlC}{q:Nat}{s:Sl4}(hs:(c.stepS 60)[q]?=some s)(h6:s.1=6):q+1=c.sl:=by
 have hl:=ZbJ hs;unfold PlC.sl;unfold PlC.stepS at hs hl ⊢;rw[YaS,List.length_singleton] at hl ⊢
 rcases Nat.lt_or_ge q ((List.range c.mi).map (fun a=>((1,0,a,0):Sl4))++c.grps.flatMap (c.grpS 60)).length with h|h
 ·rw[YaV h] at hs;have hm:=YaL hs;unfold PlC.grpS Zst Zk8 at hm;simp only[List.mem_append,List.mem_map,List.mem_flatMap,List.mem_range,List.mem_cons,List.not_mem_nil,or_false] at hm
  rcases hm with⟨a,ha,rfl⟩|⟨g,hg,(⟨i,hi,rfl⟩|⟨k,hk,i,hi,b,_,rfl|rfl⟩)|⟨i,hi,rfl⟩⟩<;>exact absurd h6 (by simp)
 ·omega
theorem ZrG{G:List Int}{e k:Nat}(h:e+k<=G.length):(pcL G e k).length=k:=by
 unfold pcL;rw[List.length_take,List.length_drop];omega
section
variable{I:InC}
theorem InC.pc_ok(hO:I.Ok):(I.mc 0).pc.Ok:=(hO.mc (x:=0) (by have:=hO.nums.wk;omega)).pcok
theorem InC.pc_ch(hO:I.Ok):1<=(I.mc 0).pc.ch:=hO.nums.ch.1
theorem ZwQ{x:Nat}(hO:I.Ok)(hx:x<I.rg.n):(I.rg.pv x+1)%(I.mc 0).pc.m=x:=Rg.sc_pv (Zd7 (InC.pc_ok hO)) hx
theorem Zfh(hO:I.Ok){x p:Nat}(hx:x<I.rg.n)(hk:I.rg.kd x p=3):∃k j b y,1<=p/\p%(I.mc 0).pc.sl=(p-1)%(I.mc 0).pc.sl+1/\p/(I.mc 0).pc.sl=(p-1)/(I.mc 0).pc.sl /\
  (((I.mc 0).pc.stepS 60)[p%(I.mc 0).pc.sl]?=some (4,k,j,b))/\((I.mc 0).pc.chk j ((I.mc 0).pc.rq x k))[b]?=some y /\
  (I.mc 0).pc.itN x p=some ((4,((p/(I.mc 0).pc.sl:Nat):Int),0),((false,decide ((I.mc 0).pc.ph k=0)),(((p/(I.mc 0).pc.sl:Nat):Int),(j:Int),(I.mc 0).pc.ph k,(I.mc 0).pc.rd k,(b:Int)),y)) /\
  (I.mc 0).pc.itN (I.rg.pv x) (p-1)=some ((3,((p/(I.mc 0).pc.sl:Nat):Int),0),((true,false),(((p/(I.mc 0).pc.sl:Nat):Int),(j:Int),(I.mc 0).pc.ph k,(I.mc 0).pc.rd k,(b:Int)),y)):=by
 have hL:=Zf2 (c:=(I.mc 0).pc);obtain⟨k,j,b,hs,hb⟩:=Zla (c:=(I.mc 0).pc) hk;obtain⟨q',e1,e2⟩:=(Zfc (I.mc 0).pc 60).2 _ k j b hs;have hql:=ZbJ hs;change p%(I.mc 0).pc.sl=q'+1 at e1;change ((I.mc 0).pc.stepS 60)[p%(I.mc 0).pc.sl]?=some (4,k,j,b) at hs;change p%(I.mc 0).pc.sl<(I.mc 0).pc.sl at hql;obtain⟨es,_⟩:=ZdZ (c:=(I.mc 0).pc) p;have hp1:p-1=p/(I.mc 0).pc.sl*(I.mc 0).pc.sl+q':=by omega
 obtain⟨a1,a2⟩:=ZdM (c:=(I.mc 0).pc) (p/(I.mc 0).pc.sl) q' (by omega);rw[<-hp1] at a1 a2;have hy:((I.mc 0).pc.chk j ((I.mc 0).pc.rq x k))[b]?=some ((I.mc 0).pc.chk j ((I.mc 0).pc.rq x k))[b]:=YaA hb;refine⟨k,j,b,_,by omega,by rw[a1];exact e1,a2.symm,hs,hy,?_,?_⟩
 ·unfold PlC.itN;rw[hs];unfold PlC.itS;dsimp only;rw[if_neg (by decide),if_pos rfl,hy];rfl
 ·unfold PlC.itN;rw[a1,e2,a2];unfold PlC.itS;dsimp only;have hsq:=ZtC (I.mc 0).pc (InC.pc_ok hO).m1 (I.rg.pv x) k;rw[ZwQ hO hx] at hsq;rw[if_pos rfl,<-hsq,hy];rfl
theorem ZtL{x p:Nat}{it:ZaB}(h:(I.mc 0).pc.itN x p=some it):∃s,((I.mc 0).pc.stepS 60)[p%(I.mc 0).pc.sl]?=some s/\(I.mc 0).pc.itS x ((p/(I.mc 0).pc.sl:Nat):Int) s=some it:=by
 unfold PlC.itN at h
 split at h
 ·rename_i s hs
  exact⟨s,hs,h⟩
 ·cases h
theorem Zvz{x p:Nat}(h:I.rg.kd x p≠0):∃it,(I.mc 0).pc.itN x p=some it:=by
 have hL:=Zf2 (c:=(I.mc 0).pc);obtain⟨s,hs⟩:∃s,((I.mc 0).pc.stepS 60)[p%(I.mc 0).pc.sl]?=some s:=⟨_,YaA (show p%(I.mc 0).pc.sl<((I.mc 0).pc.stepS 60).length from Nat.mod_lt _ hL)⟩;have h1:(I.mc 0).pc.kdS x s≠0:=by rw[<-ZjO hs];exact h
 have h2:(I.mc 0).pc.itS x ((p/(I.mc 0).pc.sl:Nat):Int) s≠none:=fun e=>h1 ((Zgt x _ _).2 e)
 obtain⟨it,hit⟩:=Option.ne_none_iff_exists'.1 h2;exact⟨it,by unfold PlC.itN;rw[hs];exact hit⟩
structure Cr.Len(s:Cr)(n:Nat):Prop where
 P:s.P.length=n
 M:s.M.length=n
 G:s.G.length=n
theorem ZtM{K:MC}{s:Cr}{it:ZaB}(h:s.Len K.NP):(ZmS (ZaW K s.ms it)).Len K.NP/\(ZmS (ZaW K s.ms it)).opn.length<=s.opn.length+1/\(ZmS (ZaW K s.ms it)).rcd.length<=s.rcd.length+(if it.1.1=6 then 1 else 0):=by
 unfold ZaW
 split
 ·exact⟨⟨h.P,h.M,by show (ZcG _ _ _ _).length=_;rw[Zct];exact h.G⟩,Nat.le_add_right _ _,Nat.le_add_right _ _⟩
 ·split
  ·exact⟨⟨h.P,h.M,h.G⟩,by show (s.opn++[_]).length<=_;simp,Nat.le_add_right _ _⟩
  ·split
   ·split
    ·refine⟨⟨?_,?_,h.G⟩,?_,Nat.le_add_right _ _⟩
     ·show (Za8 _ _ _ _ _ _ _ _).length=_;rw[Zce];exact h.P
     ·show (Za7 _ _ _ _ _ _).length=_;rw[Zcd];exact h.M
     ·show (Zcu _ _).length<=_
      unfold Zcu;exact YaH (List.length_filter_le _ _) (Nat.le_add_right _ _)
    ·exact⟨h,Nat.le_add_right _ _,Nat.le_add_right _ _⟩
   ·split
    ·rename_i e
     refine⟨⟨h.P,h.M,?_⟩,Nat.le_add_right _ _,?_⟩
     ·show (Zas _).length=_;simp[Zas]
     ·show (s.rcd++[_]).length<=_;simp
    ·exact⟨h,Nat.le_add_right _ _,Nat.le_add_right _ _⟩
theorem Zn3(hO:I.Ok)(hP:I.P0.length=I.P):∀p x,x<I.rg.n->(I.rg.sy p x).Len I.P/\(I.rg.sy p x).opn.length<=(I.mc 0).pc.cn x p/\(I.rg.sy p x).rcd.length<=1+p/(I.mc 0).pc.sl
 |0,x,hx=>⟨⟨hP,by show (Zas _).length=_;simp[Zas],by show (Zas _).length=_;simp[Zas]⟩,Nat.zero_le _,Nat.le_add_right 1 _⟩
 |p+1,x,hx=>by
  obtain⟨h1,h2,h3⟩:=Zn3 hO hP p x hx;have hcn:(I.mc 0).pc.cn x (p+1)=(I.mc 0).pc.cn x p+if I.rg.kd x p=0 then 0 else 1:=rfl
  have hdv:p/(I.mc 0).pc.sl<=(p+1)/(I.mc 0).pc.sl:=Nat.div_le_div_right (Nat.le_succ p);rw[Rg.sy]
  by_cases e1:I.rg.kd x p=1
  ·rw[if_pos e1];obtain⟨it,hit⟩:=Zvz (I:=I) (x:=x) (p:=p) (by rw[e1];decide);have e:I.rg.loc x p (I.rg.sy p x)=ZmS (ZaW (I.mc x) (I.rg.sy p x).ms it):=by
    show (match (I.mc 0).pc.itN x p with|some it=>_|none=>_)=_
    rw[hit]
   rw[e];obtain⟨w1,w2,w3⟩:=ZtM (K:=I.mc x) (it:=it) h1;refine⟨w1,by rw[hcn,e1,if_neg (by decide)];omega,?_⟩
   by_cases e6:it.1.1=6
   ·rw[if_pos e6] at w3;obtain⟨s,hs,hi⟩:=ZtL hit;have h6:s.1=6:=by
     rcases Zha (YaL hs) hi with⟨_,e,hk⟩|⟨_,_,y,hy,e⟩|⟨_,_,y,hy,e⟩
     ·rw[e] at e6;have:((s.1:Nat):Int)=6:=e6;omega
     ·rw[e] at e6;exact absurd e6 (show ¬((3:Int)=6) by decide)
     ·rw[e] at e6;exact absurd e6 (show ¬((4:Int)=6) by decide)
    have hl:=ZtK hs h6;obtain⟨es,_⟩:=ZdZ (c:=(I.mc 0).pc) p;have:(p+1)/(I.mc 0).pc.sl=p/(I.mc 0).pc.sl+1:=by
     have ha:=(ZdM (c:=(I.mc 0).pc) (p/(I.mc 0).pc.sl+1) 0 (by omega)).2;rw[show (p/(I.mc 0).pc.sl+1)*(I.mc 0).pc.sl+0=p+1 by rw[Nat.add_mul,Nat.one_mul];omega] at ha;exact ha
    omega
   ·rw[if_neg e6] at w3;omega
  ·rw[if_neg e1]
   by_cases e3:I.rg.kd x p=3
   ·rw[if_pos e3];obtain⟨k,j,b,y,hp,_,_,hs,hy,hi,hi2⟩:=Zfh hO hx e3;obtain⟨g1,_,_⟩:=Zn3 hO hP p (I.rg.pv x) (Rg.pv_lt (Zd7 (InC.pc_ok hO)) x);have hin:=Zn2 (InC.pc_ok hO) (InC.pc_ch hO) (PlC.q_lt (InC.pc_ok hO) x k).2 (YaL hy);have hPP:(I.mc 0).pc.P=I.P:=rfl;rw[hPP] at hin;have hm:(I.rg.msg (I.rg.pv x) (p-1) (I.rg.sy p (I.rg.pv x))).2=pcL (I.rg.sy p (I.rg.pv x)).G y.1.toNat (y.2-y.1).toNat:=by
     show (match (I.mc 0).pc.itN (I.rg.pv x) (p-1) with|some it=>ZwO it (I.rg.sy p (I.rg.pv x)).G|none=>((0,0,0,0,0),[])).2=_
     rw[hi2];rfl
    have e:I.rg.rcv x p (I.rg.msg (I.rg.pv x) (p-1) (I.rg.sy p (I.rg.pv x))) (I.rg.sy p x)={ I.rg.sy p x with G:=ZdJ (decide ((I.mc 0).pc.ph k=0)) (I.rg.sy p x).G y.1.toNat (y.2-y.1).toNat (pcL (I.rg.sy p (I.rg.pv x)).G y.1.toNat (y.2-y.1).toNat) }:=by
     rw[<-hm]
     show (match (I.mc 0).pc.itN x p with|some it=>_|none=>_)=_
     rw[hi]
    rw[e];refine⟨⟨h1.P,h1.M,?_⟩,by rw[hcn,e3,if_neg (by decide)];show (I.rg.sy p x).opn.length<=_;omega,by show (I.rg.sy p x).rcd.length<=_;omega⟩
    show (ZdJ _ _ _ _ _).length=_
    rw[Zk7 (ZrG (by rw[g1.G];omega)) (by rw[h1.G];omega)];exact h1.G
   ·rw[if_neg e3];exact⟨h1,by rw[hcn];omega,by omega⟩
end
def Zek(g:Nat->Nat):Nat->Nat
 |0=>0
 |k+1=>Zek g k+g k
theorem Zd2(f g:Nat->Nat):∀n,(∀y,y<n->f y=g y)->Zek f n=Zek g n
 |0,_=>rfl
 |n+1,h=>by rw[Zek,Zek,Zd2 f g n (fun y hy=>h y (by omega)),h n (by omega)]
theorem ZjP(f g:Nat->Nat){x:Nat}(hx:g x=f x+1)(h:∀y,y≠x->g y=f y):∀n,x<n->Zek g n=Zek f n+1
 |0,hn=>by omega
 |n+1,hn=>by
  rw[Zek,Zek]
  by_cases e:x=n
  ·subst e;rw[Zd2 g f x (fun y hy=>h y (by omega)),hx];omega
  ·rw[ZjP f g hx h n (by omega),h n (by omega)];omega
theorem ZrH(f:Nat->Nat)(b:Nat):∀n,(∀y,y<n->f y<=b)->Zek f n<=n*b
 |0,_=>Nat.zero_le _
 |n+1,h=>by
  rw[Zek,Nat.add_mul,Nat.one_mul];have:=ZrH f b n (fun y hy=>h y (by omega));have:=h n (by omega);omega
structure At(I:InC)(pos:Nat->Nat)(s:WS):Prop where
 inv:I.rg.Inv pos
 ml:s.mss.length=I.rg.n
 ll:s.lss.length=I.rg.n
 m:∀x m,s.mss[x]?=some m->Zvv I x (pos x) m
 l:∀x l,s.lss[x]?=some l->l.q=Rg.ms I.rg x (I.rg.sn x (pos (I.rg.sc x)) (pos x))/\l.s=l.r+l.q.length/\l.s<=(I.mc 0).pc.cn x (pos x)
 cnt:s.cnt=Zek (fun x=>(I.mc 0).pc.cn x (pos x)) I.rg.n
def ZwR(I:InC)(n x:Nat)(s:WS):Prop:=∃m,s.mss[x]?=some m/\(m.its[m.nx]?=none\/∃it,m.its[m.nx]?=some it/\ZjH (I.mc x) it=true /\
 ((it.1.1=3/\∃l,s.lss[x]?=some l/\I.c.ca.toNat<=l.s-l.r)\/(it.1.1=4/\∃l,s.lss[(x+n-1)%n]?=some l/\l.q=[])))
section
variable{I:InC}{pos:Nat→Nat}{s:WS}{x p':Nat}{m:MS}
theorem Zb0{α:Type}{l:List α}{x:Nat}(h:x<l.length):∃a,l[x]?=some a:=⟨_,YaA h⟩
theorem ZjQ(h0:I.rg.kd x (pos x)≠0)(hn:I.rg.Nx x (pos x) p'):(I.mc 0).pc.cn x p'=(I.mc 0).pc.cn x (pos x)+1:=by
 rw[ZnY x (pos x+1) p' hn.lt (fun i h4 h5=>hn.no i (by omega) h5),PlC.cn,if_neg (show ¬(I.mc 0).pc.kdN 60 x (pos x)=0 from h0)]
theorem At.turn(hO:I.Ok)(h:At I pos s)(hx:x<I.rg.n)(h0:I.rg.kd x (pos x)≠0)(hn:I.rg.Nx x (pos x) p')(hr:I.rg.kd x (pos x)=3->pos x-1<pos (I.rg.pv x)){m':MS}{lss':List LS}(hm:Zvv I x p' m')(hll:lss'.length=I.rg.n)
  (hl:∀y l,lss'[y]?=some l->l.q=Rg.ms I.rg y (I.rg.sn y (Rg.upd pos x p' (I.rg.sc y)) (Rg.upd pos x p' y))/\l.s=l.r+l.q.length/\l.s<=(I.mc 0).pc.cn y (Rg.upd pos x p' y)):At I (Rg.upd pos x p') ⟨s.mss.set x m',lss',s.cnt+1⟩:=by
 refine⟨h.inv.step (Zd7 (InC.pc_ok hO)) hx hn hr,by rw[List.length_set];exact h.ml,hll,fun y m1 hy=>?_,hl,?_⟩
 ·by_cases e:y=x
  ·subst e;rw[Rg.upd_same];dsimp only at hy;rw[List.getElem?_set_self (by rw[h.ml];exact hx)] at hy;injection hy with hy
   rw[<-hy];exact hm
  ·rw[Rg.upd_ne _ _ e];dsimp only at hy;rw[List.getElem?_set_ne (fun e1=>e e1.symm)] at hy;exact h.m y m1 hy
 ·dsimp only;rw[h.cnt];exact(ZjP _ _ (x:=x) (by rw[Rg.upd_same];exact ZjQ h0 hn) (fun y hy=>by rw[Rg.upd_ne _ _ hy]) _ hx).symm
theorem At.links(hO:I.Ok)(h:At I pos s)(hx:x<I.rg.n)(h0:I.rg.kd x (pos x)≠0)(hn:I.rg.Nx x (pos x) p'){y:Nat}{l:LS}(hy:s.lss[y]?=some l)(h2:y=x->I.rg.kd x (pos x)≠2)(h3:I.rg.sc y=x->I.rg.kd x (pos x)≠3) :
  l.q=Rg.ms I.rg y (I.rg.sn y (Rg.upd pos x p' (I.rg.sc y)) (Rg.upd pos x p' y))/\l.s=l.r+l.q.length/\l.s<=(I.mc 0).pc.cn y (Rg.upd pos x p' y):=by
 have hyn:y<I.rg.n:=by rw[<-h.ll];exact ZbJ hy
 obtain⟨a,b,c⟩:=h.l y l hy;refine⟨by rw[Rg.sn_other (Zd7 (InC.pc_ok hO)) hx hn hyn h2 h3];exact a,b,?_⟩
 by_cases e:y=x
 ·subst e;rw[Rg.upd_same,ZjQ h0 hn];omega
 ·rw[Rg.upd_ne _ _ e];exact c
theorem Zpi{n:Nat}{it:ZaB}(hm:s.mss[x]?=some m)(hit:m.its[m.nx]?=some it)(h3:it.1.1≠3)(h4:it.1.1≠4):Zbp I n x s=⟨s.mss.set x (ZaR (I.mc x) (ZaW (I.mc x) m it) it.1.2.1),s.lss,s.cnt+1⟩:=by
 unfold Zbp;rw[hm];dsimp only;rw[hit];dsimp only;rw[if_neg h3,if_neg h4]
theorem ZrI{n:Nat}{it:ZaB}{l:LS}(hm:s.mss[x]?=some m)(hit:m.its[m.nx]?=some it)(h3:it.1.1=3)(hl:s.lss[x]?=some l):Zbp I n x s=⟨s.mss.set x (ZaR (I.mc x) m it.1.2.1),s.lss.set x ⟨l.s+1,l.r,l.q++[(it.2.2.1,pcL m.G it.2.2.2.1.toNat (it.2.2.2.2-it.2.2.2.1).toNat)]⟩,s.cnt+1⟩:=by
 unfold Zbp;rw[hm];dsimp only;rw[hit];dsimp only;rw[if_pos h3,hl]
theorem ZrJ{n:Nat}{it:ZaB}{l:LS}{t:Zfo}{vs:List Int}{q:List (Zfo×List Int)}(hm:s.mss[x]?=some m)(hit:m.its[m.nx]?=some it)(h4:it.1.1=4)(hl:s.lss[(x+n-1)%n]?=some l)(hq:l.q=(t,vs)::q) :
  Zbp I n x s=⟨s.mss.set x (ZaR (I.mc x) { m with G:=ZdJ it.2.1.2 m.G it.2.2.2.1.toNat (it.2.2.2.2-it.2.2.2.1).toNat vs } it.1.2.1),s.lss.set ((x+n-1)%n) ⟨l.s,l.r+1,q⟩,s.cnt+1⟩:=by
 unfold Zbp;rw[hm];dsimp only;rw[hit];dsimp only;rw[if_neg (by rw[h4];decide),if_pos h4,hl];dsimp only;rw[hq]
structure Sm(I:InC):Prop where
 cn:∀x,x<I.rg.n->(I.mc 0).pc.cn x I.rg.N<=100000
 P0:I.P0.length=I.P
theorem At.small(hO:I.Ok)(hS:Sm I)(h:At I pos s)(hx:x<I.rg.n)(hm:s.mss[x]?=some m):Zlc m=true/\s.cnt<1000000000000/\∀(y:Nat) (l:LS),s.lss[y]?=some l->l.s<1000000000:=by
 have hM:=h.m x m hm;obtain⟨h1,h2,h3⟩:=Zn3 hO hS.P0 (pos x) x hx;rw[<-hM.cr] at h2 h3;have hcb:∀y,y<I.rg.n->(I.mc 0).pc.cn y (pos y)<=100000:=fun y hy=>YaH (ZjI y (h.inv.le y hy)) (hS.cn y hy)
 have hn8:I.rg.n<=8:=(InC.pc_ok hO).m2;have hcx:=hcb x hx;have hd:pos x/(I.mc 0).pc.sl<=12:=by
  have h4:=h.inv.le x hx;have h5:pos x/(I.mc 0).pc.sl<=I.c.st.toNat:=Nat.div_le_of_le_mul (by rw[Nat.mul_comm];exact h4);have:=hO.st;omega
 refine⟨?_,?_,fun y l hy=>?_⟩
 ·unfold Zlc;simp only[YaQ,decide_eq_true_eq];have h6:m.opn.length<=(I.mc 0).pc.cn x (pos x):=h2;have h7:m.rcd.length<=1+pos x/(I.mc 0).pc.sl:=h3;exact⟨⟨by rw[hM.cnt];omega,by omega⟩,by omega⟩
 ·rw[h.cnt];have h6:=ZrH (fun y=>(I.mc 0).pc.cn y (pos y)) 100000 I.rg.n hcb;have h7:I.rg.n*100000<=8*100000:=YaW _ hn8;omega
 ·have hyn:y<I.rg.n:=by rw[<-h.ll];exact ZbJ hy
  have:=(h.l y l hy).2.2;have:=hcb y hyn;omega
end
theorem ZjR(S:Nat->Prop)(b cp s r:Nat)(q:List (Zfo×List Int))(t1 t2 t3 t4 t5:Int)(Am:Option Addr)(nm cm:Nat)(w:World)(h:ZaP S w b cp s r q)(hfull:cp<=s-r) :
  Calls prog 130 #[.pointer (some ⟨b,0,none⟩),.agg #[.int .i64 t1,.int .i64 t2,.int .i64 t3,.int .i64 t4,.int .i64 t5,.slice Am nm cm]] w fun e w'=>e=.returned (.int .i64 11)/\Bz0 w w':=by
 obtain⟨A,n,c,pk,ms,h⟩:=h;have hrs:=h.rs;have hs9:=h.s9;have hroom:=h.room;have HI:=hid h;have HLN:=hid (fun W (k:Blk W b 243 (Zgc A n c cp s r pk))=>Zc3 A n c cp s r pk b W k hrs (by omega));have HA:Hid (∀W,w.alloc (.cells #[.int .i64 t1,.int .i64 t2,.int .i64 t3,.int .i64 t4,.int .i64 t5,.slice Am nm cm] 259)=W->Below w.heap.size w W):=hid (by
  rintro W rfl;exact bA0 _)
 have e0:(((s-r:Nat):Int)==(cp:Int))=true:=by simp;omega
 clear h
 go_enter func130,ntmps130
 go_wp2_with fail;obtain⟨w1,hw1⟩:∃w1,w.alloc (.cells #[.int .i64 t1,.int .i64 t2,.int .i64 t3,.int .i64 t4,.int .i64 t5,.slice Am nm cm] 259)=w1:=⟨_,rfl⟩;have hB1:=HA.out _ hw1;rw[hw1];have HB1:=hid hB1;have hL1:=HI.out.blk.kept hB1;have HL1:=hid hL1;have c1:w1.cell? ⟨b,1,none⟩=some (.int .i64 cp):=hL1.cell 1;have lb1:=hL1.lt;clear hw1 HA hB1 hL1;go_wp2_with fail;refine Zad (Zag w1) [0,2,3,4,5] [1] [6] (by kernel_rfl) (by kernel_rfl) (Zag.start w1) ?_;simp only[YaO,YaP,YaB,YaC];refine Zaa (.pointer (some ⟨b,0,none⟩)) rfl (fun W hW=>?_) ?_
 ·obtain⟨hc,-,-⟩:=hW;go_simp
 go_simp;refine Zaa (.pointer (some ⟨b,0,none⟩)) rfl (fun W hW=>?_) ?_
 ·obtain⟨hc,-,-⟩:=hW;go_simp
 go_simp;refine Zaa (.pointer (some ⟨b,0,none⟩)) rfl (fun W hW=>?_) ?_
 ·obtain⟨hc,-,-⟩:=hW;go_simp
 go_simp;refine Zaa (.pointer (some ⟨b,1,none⟩)) rfl (fun W hW=>?_) ?_
 ·obtain⟨hc,-,-⟩:=hW;go_simp
 go_simp;refine Zaa (.int .i64 cp) rfl (fun W hW=>?_) ?_
 ·obtain⟨hc,-,-⟩:=hW;go_simp
 go_simp;change Zah _ _ _ _ _ (_::[]) _ _;unfold Zah;go_wp2_with fail;((with_reducible refine(HLN.out _ HL1.out.drew).mono ?_);rintro e w2 ⟨rfl,mm,hw2⟩);have hk2:Zag w1 w2:=by rw[hw2];exact(Zag.start w1).drewN mm
 clear hw2;go_wp2_with fail;refine⟨hk2,?_⟩;unfold Zah;change wpList _ _ _ (_::[]) _ _;go_wp2_with fail;refine NoPanic.normal ?_;have HB2:=hid (bT0 HB1.out hk2.2.2);clear HB1 HL1 c1 lb1 hk2;go_wp2_with fail;go_ret;exact⟨rfl,HB2.out⟩
theorem ZjS(A:Option Addr)(n c cp s r:Nat)(pk:Int)(b:Nat)(w:World)(h:Blk w b 243 (Zgc A n c cp s r pk))(hr:r=s)(hs:s<=1000000000000) :
  Calls prog 279 #[.pointer (some ⟨b,0,none⟩)] w fun e w'=>e=.returned (.tuple #[.agg #[.int .i64 0,.int .i64 0,.int .i64 0,.int .i64 0,.int .i64 0],.bool false])/\Bz0 w w':=by
 have e0:(((s-r:Nat):Int)==0)=true:=by simp;omega
 have HLN:=hid (fun W (k:Zag w W)=>Zc3 A n c cp s r pk b W (h.kept k.2.2) (by omega) hs);have HA:Hid (Zag w (w.alloc (.cells #[.int .i64 0,.int .i64 0,.int .i64 0,.int .i64 0,.int .i64 0] 216))):=hid ((Zag.of (bR0 _ w)).alloc _);clear h hr
 go_enter func279,ntmps279
 go_wp2_with fail;((with_reducible refine(HLN.out _ HA.out).mono ?_);rintro e w1 ⟨rfl,mm,hw1⟩);have hk1:Zag w w1:=by rw[hw1];exact HA.out.drewN mm
 have hb1:Blk w1 w.heap.size 216 #[.int .i64 0,.int .i64 0,.int .i64 0,.int .i64 0,.int .i64 0]:=by rw[hw1];exact(Blk.new w _ _).drewN mm
 have HK1:=hid hk1;clear hw1 hk1;have d0:=hb1.cell 0;have d1:=hb1.cell 1;have d2:=hb1.cell 2;have d3:=hb1.cell 3;have d4:=hb1.cell 4;have f0:=hb1.frozen 0;have f1:=hb1.frozen 1;have f2:=hb1.frozen 2;have f3:=hb1.frozen 3;have f4:=hb1.frozen 4;have lb:=hb1.lt;clear hb1;go_wp2_with fail;refine bodyPost_ret (v:=.tuple #[.agg #[.int .i64 0,.int .i64 0,.int .i64 0,.int .i64 0,.int .i64 0],.bool false]) (by simp[results,results279,go_sem,d0,d1,d2,d3,d4,lb]) rfl ⟨rfl,?_⟩
 repeat (first|(refine Below.setCell (B:=w.heap.size) (p:=⟨w.heap.size,_,none⟩) ?_ (show w.heap.size<=w.heap.size from YaF _) _)|(refine Below.drew ?_))
 exact HK1.out.2.2
theorem ZhZ(S:Nat->Prop)(b cp s r:Nat)(t1 t2 t3 t4 t5:Int)(w:World)(h:ZaP S w b cp s r []) :
  Calls prog 265 #[.pointer (some ⟨b,0,none⟩),.agg #[.int .i64 t1,.int .i64 t2,.int .i64 t3,.int .i64 t4,.int .i64 t5]] w fun e w'=>e=.returned (.tuple #[.agg #[.int .i64 0,.int .i64 0,.int .i64 0,.int .i64 0,.int .i64 0,.slice none 0 0],.int .i64 12])/\Bz0 w w':=by
 obtain⟨A,n,c,pk,ms,h⟩:=h;have hrs:r=s:=by have h1:=h.ql;have h2:=h.rs;simp at h1;omega
 have hs9:=h.s9;have HPK:=hid (fun W (k:Below w.heap.size w W)=>ZjS A n c cp s r pk b W (h.blk.kept k) hrs (by omega));obtain⟨w0,hw0⟩:∃w0,(w.alloc (.cells #[.int .i64 t1,.int .i64 t2,.int .i64 t3,.int .i64 t4,.int .i64 t5] 216)).alloc (.cells #[.int .i64 0,.int .i64 0,.int .i64 0,.int .i64 0,.int .i64 0,.slice none 0 0] 259)=w0:=⟨_,rfl⟩;have HW0:=hid hw0;have HB0:Hid (Below w.heap.size w w0):=hid (by rw[<-hw0];exact(bA0 _).alloc (by simp) _);have HM0:Hid (Blk w0 (w.heap.size+1) 259 #[.int .i64 0,.int .i64 0,.int .i64 0,.int .i64 0,.int .i64 0,.slice none 0 0]):=hid (by rw[<-hw0];exact Blk.new' _ _ (by simp));clear h hw0
 go_enter func265,ntmps265
 go_wp2_with fail;rw[HW0.out];((with_reducible refine(HPK.out w0 HB0.out).mono ?_);rintro e w1 ⟨rfl,hb1⟩);have HB1:=hid (bT0 HB0.out hb1);have HM1:=hid (HM0.out.kept hb1);clear hb1;have m0:=HM1.out.cell 0;have m1:=HM1.out.cell 1;have m2:=HM1.out.cell 2;have m3:=HM1.out.cell 3;have m4:=HM1.out.cell 4;have m5:=HM1.out.cell 5;have z0:=HM1.out.frozen 0;have z1:=HM1.out.frozen 1;have z2:=HM1.out.frozen 2;have z3:=HM1.out.frozen 3;have z4:=HM1.out.frozen 4;have z5:=HM1.out.frozen 5;have lm:=HM1.out.lt;go_wp2_with fail;clear m0 m1 m2 m3 m4 m5 z0 z1 z2 z3 z4 z5 lm;obtain⟨w2,hw2,hg2,hk2⟩:=Zyb HM1.out (.int .i64 0) (.int .i64 0) (.int .i64 0) (.int .i64 0) (.int .i64 0) (.slice none 0 0);rw[<-hw2];clear hw2;have hb2:=Zai HB1.out HB1.out.size hg2 (show w.heap.size<=w.heap.size+1 by omega);have hb3:Below w.heap.size w (w2.alloc (.cells #[.int .i64 0,.int .i64 0,.int .i64 0,.int .i64 0,.int .i64 0] 216)):=hb2.alloc hb2.size _;have hm3:=hk2.alloc (.cells #[.int .i64 0,.int .i64 0,.int .i64 0,.int .i64 0,.int .i64 0] 216);generalize w2.alloc (.cells #[.int .i64 0,.int .i64 0,.int .i64 0,.int .i64 0,.int .i64 0] 216)=w3 at hb3 hm3 ⊢;have n0:=hm3.cell 0;have n1:=hm3.cell 1;have n2:=hm3.cell 2;have n3:=hm3.cell 3;have n4:=hm3.cell 4;have n5:=hm3.cell 5;have ln:=hm3.lt;exact bodyPost_ret (v:=.tuple #[.agg #[.int .i64 0,.int .i64 0,.int .i64 0,.int .i64 0,.int .i64 0,.slice none 0 0],.int .i64 12]) (by simp[results,results265,go_sem,n0,n1,n2,n3,n4,n5,ln]) rfl ⟨rfl,hb3⟩
theorem ZfH(S T:Nat->Prop)(mb:Nat)(K:MC)(s:MS)(k1 t u:Int)(sd ad:Bool)(j1 j2 j3 j4 j5 e e2:Int)(pr:Option Addr)(lb cp sn rc:Nat)(w:World)(hL:ZaP T w lb cp sn rc []) :
  Calls prog 234 #[.pointer (some ⟨mb,0,none⟩),(.agg (Zeg k1 t u sd ad j1 j2 j3 j4 j5 e e2)),.agg #[.pointer (some ⟨lb,0,none⟩),.pointer pr]] w fun en w'=>en=.returned (.int .i64 12)/\Bz0 w w':=by
 have HL:=hid hL;clear hL
 go_enter func234,ntmps234
 go_wp2_with fail;obtain⟨w1,hw1⟩:∃w1,((w.alloc (.cells (Zeg k1 t u sd ad j1 j2 j3 j4 j5 e e2) 222)).alloc (.cells #[.pointer (some ⟨lb,0,none⟩),.pointer pr] 341)).alloc (.cells #[.bool sd,.bool ad,.int .i64 j1,.int .i64 j2,.int .i64 j3,.int .i64 j4,.int .i64 j5,.int .i64 e,.int .i64 e2] 220)=w1:=⟨_,rfl⟩;have hb1:Below w.heap.size w w1:=by rw[<-hw1];exact((bA0 _).alloc (by simp) _).alloc (by simp;omega) _
 rw[hw1];have HB1:=hid hb1;have HL1:=hid (HL.out.step hb1.size (fun i hi _=>hb1.block i hi));clear hw1 hb1;((with_reducible refine(ZhZ T lb cp sn rc j1 j2 j3 j4 j5 w1 HL1.out).mono ?_);rintro en w2 ⟨rfl,hb2⟩);have HB2:=hid (bT0 HB1.out hb2);clear hb2;go_wp2_with fail;go_ret;exact⟨rfl,HB2.out.alloc HB2.out.size _⟩
theorem Zpj(S:Nat->Prop)(mb:Nat)(K:MC)(s:MS)(pl pr:Option Addr)(w:World)(h:Zaz S w mb K s)(hx:s.its[s.nx]?=none) :
  Calls prog 128 #[.pointer (some ⟨mb,0,none⟩),.pointer pl,.pointer pr] w fun e w'=>e=.returned (.int .i64 13)/\Bz0 w w':=by
 obtain⟨F,a,hM,-,-⟩:=h;have HNX:=hid (Ze8 F mb K s a w hM (List.getElem?_eq_none_iff.1 hx));clear hM hx
 go_enter func128,ntmps128
 go_wp2_with fail;((with_reducible refine HNX.out.mono ?_);rintro e w1 ⟨rfl,hb1⟩);have HB1:=hid hb1;clear hb1;go_wp2_with fail;go_ret;exact⟨rfl,HB1.out.alloc HB1.out.size _⟩
theorem Zhb(S T:Nat->Prop)(mb:Nat)(K:MC)(s:MS)(x:ZaB)(li lo:Nat)(w:World)(hK:K.Ok)(h:Zaz S w mb K s)(hx:s.its[s.nx]?=some x)(hi:Zf1 K x)(hc:s.cnt<1000000000000)
  (hf:(x.1.1=3/\∃cp sn rc q,ZaP T w lo cp sn rc q/\cp<=sn-rc)\/(x.1.1=4/\∃cp sn rc,ZaP T w li cp sn rc [])) :
  Calls prog 128 #[.pointer (some ⟨mb,0,none⟩),.pointer (some ⟨li,0,none⟩),.pointer (some ⟨lo,0,none⟩)] w fun e w'=>∃code,e=.returned (.int .i64 code)/\code≠0/\Bz0 w w':=by
 obtain⟨⟨k1,t,u⟩,⟨⟨sd,ad⟩,⟨j1,j2,j3,j4,j5⟩,⟨j6,j7⟩⟩⟩:=x
 rcases hf with⟨hk,cp,sn,rc,q,hL,hfull⟩|⟨hk,cp,sn,rc,hL⟩
 ·have hk':k1=3:=hk;subst hk';obtain⟨e,e2,h6,h7,h8,h9⟩:=hi.act (.inl rfl);have h6':j6=(e:Int):=h6;have h7':j7=(e2:Int):=h7;subst h6' h7';refine(ZfE 11 S S (fun _=>True) mb K s s 233 3 t u sd ad j1 j2 j3 j4 j5 e e2 (some ⟨li,0,none⟩) (some ⟨lo,0,none⟩) w hK h hx (fun W=>rfl) (fun _ _=>rfl) (fun W hb=>?_) rfl rfl rfl hc hi.t).mono ?_
  ·refine(Zf0 11 (fun w'=>Below W.heap.size W w') S mb K s 3 t u sd ad j1 j2 j3 j4 j5 e e2 (e2-e) (some ⟨li,0,none⟩) lo W hK (h.step hb.size (fun i hi _=>hb.block i hi)) (by omega) h9 (fun Aw cw W2 hW2 hrd=>?_)).mono ?_
   ·refine(ZjR T lo cp sn rc q j1 j2 j3 j4 j5 Aw (e2-e) cw W2 ((hL.step hb.size (fun i hi _=>hb.block i hi)).step hW2.size (fun i hi _=>hW2.block i hi)) hfull).mono ?_;rintro en w2 ⟨rfl,hb2⟩;exact⟨rfl,bT0 hW2 hb2⟩
   ·rintro en w2 ⟨rfl,hb2⟩;exact⟨rfl,.inl ⟨by decide,hb2⟩⟩
  ·rintro en w2 ⟨rfl,hh|hh⟩
   ·exact⟨11,rfl,hh⟩
   ·exact absurd hh.1 (by decide)
 ·have hk':k1=4:=hk;subst hk';refine(ZfE 12 S S (fun _=>True) mb K s s 234 4 t u sd ad j1 j2 j3 j4 j5 j6 j7 (some ⟨li,0,none⟩) (some ⟨lo,0,none⟩) w hK h hx (fun W=>rfl) (fun _ _=>rfl) (fun W hb=>?_) rfl rfl rfl hc hi.t).mono ?_
  ·refine(ZfH S T mb K s 4 t u sd ad j1 j2 j3 j4 j5 j6 j7 (some ⟨lo,0,none⟩) li cp sn rc W (hL.step hb.size (fun i hi _=>hb.block i hi))).mono ?_;rintro en w2 ⟨rfl,hb2⟩;exact⟨rfl,.inl ⟨by decide,hb2⟩⟩
  ·rintro en w2 ⟨rfl,hh|hh⟩
   ·exact⟨12,rfl,hh⟩
   ·exact absurd hh.1 (by decide)
section
variable{own:Nat→Nat}{w:World}{xb:Nat}{I:InC}{mbs lbs:List Nat}{mss:List MS}{lss:List LS}{AW:Option Addr}{cW:Nat}{AL:Option Addr}{cL cnt:Nat}
theorem Zh0(h:Zao own w xb I mbs lbs mss lss AW cW AL cL cnt)(n x b li lo:Nat)(hn:mbs.length=n)(hl:lbs.length=n)(hx:x<n)(hn64:n<=64)(hb:mbs[x]?=some b)(hi:lbs[(x+n-1)%n]?=some li)(ho:lbs[x]?=some lo)
  (hdo:∀W,Below w.heap.size w W->Calls prog 128 #[.pointer (some ⟨b,0,none⟩),.pointer (some ⟨li,0,none⟩),.pointer (some ⟨lo,0,none⟩)] W fun e w'=>∃code,e=.returned (.int .i64 code)/\code≠0/\Bz0 W w') :
  Calls prog 71 #[.pointer (some ⟨xb,0,none⟩),.int .i64 x] w fun e w'=>e=.returned (.bool false)/\Bz0 w w':=by
 have HAT:=hid (Zex h n x b li lo hn hl hx hn64 hb hi ho);have HDO:=hid hdo;have hme:=ZnU b;clear h hdo hb hi ho
 go_enter func71,ntmps71
 go_wp2_with fail;((with_reducible refine HAT.out.mono ?_);rintro e w1 ⟨rfl,hb1⟩);have HB1:=hid hb1;clear hb1;go_wp2_with fail;((with_reducible refine(HDO.out w1 HB1.out).mono ?_);rintro e w2 ⟨code,rfl,hne,hb2⟩);have HB2:=hid (bT0 HB1.out hb2);have ec:(code==0)=false:=by simpa using hne
 clear hb2 hme;go_wp2_with fail;go_ret;exact⟨rfl,HB2.out⟩
theorem Zh1(s:WS)(h:Zao own w xb I mbs lbs s.mss s.lss AW cW AL cL s.cnt)(hO:I.Ok)(n x:Nat)(hn:mbs.length=n)(hl:lbs.length=n)(hx:x<n)(hn64:n<=64)(hxw:(x:Int)<I.c.wk)(hsm:∀m,s.mss[x]?=some m->m.cnt<1000000000000)(hF:ZwR I n x s) :
  Calls prog 71 #[.pointer (some ⟨xb,0,none⟩),.int .i64 x] w fun e w'=>e=.returned (.bool false)/\Bz0 w w':=by
 obtain⟨b,hb⟩:∃b,mbs[x]?=some b:=⟨_,YaA (by omega)⟩;obtain⟨li,hli⟩:∃b,lbs[(x+n-1)%n]?=some b:=⟨_,YaA (by rw[hl];exact Nat.mod_lt _ (by omega))⟩;obtain⟨lo,hlo⟩:∃b,lbs[x]?=some b:=⟨_,YaA (by omega)⟩;refine Zh0 h n x b li lo hn hl hx hn64 hb hli hlo (fun W hW=>?_);have hWW:=h.below (own':=own) hW (fun _ _=>rfl);obtain⟨m,hm,hF⟩:=hF;have hmA:=hWW.parts.mach x b m hb hm
 rcases hF with hF|⟨it,hit,hB,hF⟩
 ·refine(Zpj _ b (I.mc x) m _ _ W hmA hF).mono ?_;rintro e w' ⟨rfl,hb'⟩;exact⟨13,rfl,by decide,hb'⟩
 ·rcases hF with⟨hk,l,hl',hr⟩|⟨hk,l,hl',hq⟩
  ·exact Zhb _ _ b (I.mc x) m it li lo W (hO.mc hxw) hmA hit (Zfe hB) (hsm m hm) (.inl ⟨hk,_,_,_,_,hWW.parts.link x lo l hlo hl',hr⟩)
  ·have hL:=hWW.parts.link _ li l hli hl';rw[hq] at hL;exact Zhb _ _ b (I.mc x) m it li lo W (hO.mc hxw) hmA hit (Zfe hB) (hsm m hm) (.inr ⟨hk,_,_,_,hL⟩)
end
section
variable{I:InC}{pos:Nat→Nat}{s:WS}{x p':Nat}{m:MS}
theorem ZtN(hO:I.Ok)(h:At I pos s)(hx:x<I.rg.n)(hm:s.mss[x]?=some m)(hp:pos x<I.rg.N)(h1:I.rg.kd x (pos x)=1){it:ZaB}(hi:(I.mc 0).pc.itN x (pos x)=some it)(ht:it.1.2.1=((pos x/(I.mc 0).pc.sl:Nat):Int))(hn:I.rg.Nx x (pos x) p') :
  At I (Rg.upd pos x p') ⟨s.mss.set x (ZaR (I.mc x) (ZaW (I.mc x) m it) it.1.2.1),s.lss,s.cnt+1⟩:=by
 have h0:I.rg.kd x (pos x)≠0:=by rw[h1];decide
 have hM:=h.m x m hm;obtain⟨w1,w2,w3,w4⟩:=Zvu (I.mc x) m it;refine h.turn hO hx h0 hn (fun e=>by rw[h1] at e;cases e) ?_ h.ll (fun y l hy=>h.links hO hx h0 hn hy (fun _ e=>by rw[h1] at e;cases e) (fun _ e=>by rw[h1] at e;cases e));rw[ht];refine hM.next (InC.pc_ok hO) hx hp h0 hn w2 w3 w4 ?_;rw[Rg.sy_loc hn h1,w1,hM.cr]
 show _=(match (I.mc 0).pc.itN x (pos x) with|some it=>_|none=>_)
 rw[hi]
theorem ZvA(hO:I.Ok)(h:At I pos s)(hx:x<I.rg.n)(hm:s.mss[x]?=some m)(hp:pos x<I.rg.N)(h1:I.rg.kd x (pos x)=2){it:ZaB}(hi:(I.mc 0).pc.itN x (pos x)=some it)(ht:it.1.2.1=((pos x/(I.mc 0).pc.sl:Nat):Int))(hn:I.rg.Nx x (pos x) p'){l:LS}(hl:s.lss[x]?=some l) :
  At I (Rg.upd pos x p') ⟨s.mss.set x (ZaR (I.mc x) m it.1.2.1),s.lss.set x ⟨l.s+1,l.r,l.q++[(it.2.2.1,pcL m.G it.2.2.2.1.toNat (it.2.2.2.2-it.2.2.2.1).toNat)]⟩,s.cnt+1⟩:=by
 have h0:I.rg.kd x (pos x)≠0:=by rw[h1];decide
 have hM:=h.m x m hm;have hR:=Zd7 (InC.pc_ok hO);refine h.turn hO hx h0 hn (fun e=>by rw[h1] at e;cases e) ?_ (by rw[List.length_set];exact h.ll) (fun y l' hy=>?_)
 ·rw[ht];refine hM.next (InC.pc_ok hO) hx hp h0 hn rfl rfl rfl ?_;rw[Rg.sy_send hn h1];exact hM.cr
 ·by_cases e:y=x
  ·subst e;rw[List.getElem?_set_self (by rw[h.ll];exact hx)] at hy;injection hy with hy
   subst hy;obtain⟨a,b,c⟩:=h.l y l hl;refine⟨?_,by dsimp only;rw[YaS,List.length_singleton];omega,by dsimp only;rw[Rg.upd_same,ZjQ h0 hn];omega⟩;rw[Rg.sn_send hR h.inv hx hn h1];dsimp only;unfold Rg.ms at a ⊢;rw[List.map_append,<-a,List.map_cons,List.map_nil]
   congr 2
   have hg:m.G=(I.rg.sy (pos y) y).G:=by rw[<-hM.cr];rfl
   show _=(match (I.mc 0).pc.itN y (pos y) with|some it=>ZwO it _|none=>_)
   rw[hi,hg];rfl
  ·rw[List.getElem?_set_ne (fun e1=>e e1.symm)] at hy;exact h.links hO hx h0 hn hy (fun e1=>absurd e1 e) (fun _ e1=>by rw[h1] at e1;cases e1)
theorem ZvB(hO:I.Ok)(h:At I pos s)(hx:x<I.rg.n)(hm:s.mss[x]?=some m)(hp:pos x<I.rg.N)(h1:I.rg.kd x (pos x)=3){it:ZaB}(hi:(I.mc 0).pc.itN x (pos x)=some it)(ht:it.1.2.1=((pos x/(I.mc 0).pc.sl:Nat):Int))(hn:I.rg.Nx x (pos x) p'){l:LS}(hl:s.lss[I.rg.pv x]?=some l)(hs:pos x-1<pos (I.rg.pv x)) :
  ∃q,l.q=I.rg.msg (I.rg.pv x) (pos x-1) (I.rg.sy (pos x-1) (I.rg.pv x))::q /\
  At I (Rg.upd pos x p') ⟨s.mss.set x (ZaR (I.mc x) { m with G:=ZdJ it.2.1.2 m.G it.2.2.2.1.toNat (it.2.2.2.2-it.2.2.2.1).toNat (I.rg.msg (I.rg.pv x) (pos x-1) (I.rg.sy (pos x-1) (I.rg.pv x))).2 } it.1.2.1),s.lss.set (I.rg.pv x) ⟨l.s,l.r+1,q⟩,s.cnt+1⟩:=by
 have h0:I.rg.kd x (pos x)≠0:=by rw[h1];decide
 have hM:=h.m x m hm;have hR:=Zd7 (InC.pc_ok hO);have hpv:=Rg.pv_lt hR x;have hsn:=Rg.sn_recv hR hx hn h1 hs;obtain⟨a,b,c⟩:=h.l _ l hl;rw[Rg.sc_pv hR hx,hsn] at a;unfold Rg.ms at a;rw[List.map_cons] at a;refine⟨_,a,?_⟩;refine h.turn hO hx h0 hn (fun _=>hs) ?_ (by rw[List.length_set];exact h.ll) (fun y l' hy=>?_)
 ·rw[ht];refine hM.next (InC.pc_ok hO) hx hp h0 hn rfl rfl rfl ?_;rw[Rg.sy_recv hR hx hn h1]
  show _=(match (I.mc 0).pc.itN x (pos x) with|some it=>_|none=>_)
  rw[hi,<-hM.cr];rfl
 ·by_cases e:y=I.rg.pv x
  ·subst e;rw[List.getElem?_set_self (by rw[h.ll];exact hpv)] at hy;injection hy with hy
   subst hy;have hne:I.rg.pv x≠x:=by
    intro e1;have h2:I.rg.kd (I.rg.pv x) (pos x-1)=2:=by
     obtain⟨k,j,b',y,hp1,_,_,_,_,_,hi2⟩:=Zfh hO hx h1;refine(hR.pair _ _ hpv).2 ?_;rw[Rg.sc_pv hR hx,Nat.sub_add_cancel hp1];exact h1
    exact Rg.sc_ne hR hx (Rg.two hR h2) (by have:=Rg.sc_pv hR hx;rwa [e1] at this)
   refine⟨by rw[Rg.sc_pv hR hx];rfl,?_,?_⟩
   ·dsimp only;rw[a] at b;rw[List.length_cons] at b;omega
   ·dsimp only;rw[Rg.upd_ne _ _ hne];exact c
  ·rw[List.getElem?_set_ne (fun e1=>e e1.symm)] at hy;have hyn:y<I.rg.n:=by rw[<-h.ll];exact ZbJ hy
   exact h.links hO hx h0 hn hy (fun _ e1=>by rw[h1] at e1;cases e1) (fun e1=>absurd (by rw[<-e1,Rg.pv_sc hR hyn]) e)
theorem ZmZ(hO:I.Ok)(hS:Sm I)(h:At I pos s)(hx:x<I.rg.n) :
  (ZbC I I.rg.n x s=true/\∃p',I.rg.Nx x (pos x) p'/\At I (Rg.upd pos x p') (Zbp I I.rg.n x s))\/(ZwR I I.rg.n x s/\¬I.rg.Can pos x):=by
 obtain⟨m,hm⟩:=Zb0 (l:=s.mss) (x:=x) (by rw[h.ml];exact hx);have hM:=h.m x m hm;have hR:=Zd7 (InC.pc_ok hO);have hpv:=Rg.pv_lt hR x
 rcases Nat.lt_or_ge (pos x) I.rg.N with hp|hp
 ·have h0:=h.inv.at_ x hx hp;obtain⟨p',hn⟩:=Rg.nx_ex I.rg x (pos x) hp;obtain⟨sl,it,hs,hi,hN,hit,htt⟩:=hM.item (InC.pc_ok hO) hx hp h0;have hsm:=YaL hs;have hkd:I.rg.kd x (pos x)=(I.mc 0).pc.kdS x sl:=ZjO hs;obtain⟨s1,s2,s3⟩:=h.small hO hS hx hm;have hright:ZjH (I.mc x) it=true:=Zph (InC.pc_ok hO) (InC.pc_ch hO) rfl rfl (by have:=hO.st;omega) hsm hi
  rcases Zha hsm hi with⟨k1,e,hk⟩|⟨k1,k3,y,hy,e⟩|⟨k1,k3,y,hy,e⟩
  ·left
   have e1:it.1.1=((sl.1:Nat):Int):=by rw[e];rfl
   have n3:it.1.1≠3:=by rw[e1];omega
   have n4:it.1.1≠4:=by rw[e1];omega
   refine⟨?_,p',hn,?_⟩
   ·unfold ZbC;rw[hm];dsimp only;rw[hit];dsimp only;rw[if_neg n3,if_neg n4,hright,s1];simp only[Bool.true_and,YaQ,decide_eq_true_eq,Bool.or_eq_true];refine⟨s2,?_⟩;rw[e1];omega
   ·rw[Zpi hm hit n3 n4];exact ZtN hO h hx hm hp (hkd.trans k1) hN (by rw[e];rfl) hn
  ·have e1:it.1.1=3:=by rw[e]
   obtain⟨l,hl⟩:=Zb0 (l:=s.lss) (x:=x) (by rw[h.ll];exact hx);obtain⟨a,b,c⟩:=h.l x l hl
   by_cases hroom:l.s-l.r<I.c.ca.toNat
   ·left
    refine⟨?_,p',hn,?_⟩
    ·unfold ZbC;rw[hm];dsimp only;rw[hit];dsimp only;rw[if_pos e1,hright,s1,hl];simp only[Bool.true_and,YaQ,decide_eq_true_eq];exact⟨s2,hroom,s3 x l hl⟩
    ·rw[ZrI hm hit e1 hl];exact ZvA hO h hx hm hp (hkd.trans k1) hN (by rw[e]) hn hl
   ·right
    refine⟨⟨m,hm,.inr ⟨it,hit,hright,.inl ⟨e1,l,hl,by omega⟩⟩⟩,fun hC=>?_⟩;have:=hC.2.2.1 (hkd.trans k1);rw[this] at a;have hq:l.q.length=0:=by rw[a];rfl
    have:=hO.nums.ca;omega
  ·have e1:it.1.1=4:=by rw[e]
   have k2:I.rg.kd x (pos x)=3:=hkd.trans k1;obtain⟨l,hl⟩:=Zb0 (l:=s.lss) (x:=I.rg.pv x) (by rw[h.ll];exact hpv);obtain⟨a,b,c⟩:=h.l _ l hl;rw[Rg.sc_pv hR hx] at a
   by_cases hs':pos x-1<pos (I.rg.pv x)
   ·left
    obtain⟨q,hq,hA⟩:=ZvB hO h hx hm hp k2 hN (by rw[e]) hn hl hs';obtain⟨k,j,b',y',hp1,hq1,hd1,_,hy',hi1,hi2⟩:=Zfh hO hx k2;have hmsg:I.rg.msg (I.rg.pv x) (pos x-1) (I.rg.sy (pos x-1) (I.rg.pv x))=(it.2.2.1,pcL (I.rg.sy (pos x-1) (I.rg.pv x)).G it.2.2.2.1.toNat (it.2.2.2.2-it.2.2.2.1).toNat):=by
     show (match (I.mc 0).pc.itN (I.rg.pv x) (pos x-1) with|some it=>ZwO it _|none=>_)=_
     rw[hi2];rw[hN] at hi1;injection hi1 with hi1
     rw[hi1];rfl
    refine⟨?_,p',hn,?_⟩
    ·unfold ZbC;rw[hm];dsimp only;rw[hit];dsimp only;rw[if_neg (by rw[e1];decide),if_pos e1,hright,s1,show s.lss[(x+I.rg.n-1)%I.rg.n]?=some l from hl];simp only[hq,hmsg,Bool.true_and,YaQ,decide_eq_true_eq,true_and];refine⟨s2,?_⟩;refine ZrG ?_;have hG:=(Zn3 hO hS.P0 (pos x-1) (I.rg.pv x) hpv).1.G;have hin:=Zn2 (InC.pc_ok hO) (InC.pc_ch hO) (PlC.q_lt (InC.pc_ok hO) x sl.2.1).2 (YaL hy);have hPP:(I.mc 0).pc.P=I.P:=rfl;rw[hPP] at hin;rw[hG,e];dsimp only;omega
    ·rw[ZrJ (t:=it.2.2.1) (vs:=pcL (I.rg.sy (pos x-1) (I.rg.pv x)).G it.2.2.2.1.toNat (it.2.2.2.2-it.2.2.2.1).toNat) (q:=q) hm hit e1 hl (by rw[hq,hmsg])];rw[hmsg] at hA;exact hA
   ·right
    refine⟨⟨m,hm,.inr ⟨it,hit,hright,.inr ⟨e1,l,hl,?_⟩⟩⟩,fun hC=>hs' (hC.2.2.2 k2)⟩;rw[a];have:I.rg.sn (I.rg.pv x) (pos x) (pos (I.rg.pv x))=[]:=List.eq_nil_iff_forall_not_mem.2 (fun i hi'=>by
     obtain⟨z1,z2,z3⟩:=Rg.sn_mem.1 hi'
     omega)
    rw[this];rfl
 ·right
  have hpe:pos x=I.rg.N:=Nat.le_antisymm (h.inv.le x hx) hp;refine⟨⟨m,hm,.inl ?_⟩,fun hC=>by have:=hC.2.1;omega⟩;have hL:=Zf2 (c:=(I.mc 0).pc);have hd:pos x/(I.mc 0).pc.sl=I.c.st.toNat:=by
   rw[hpe];exact Nat.mul_div_cancel _ hL
  rw[hM.its,hd];unfold PlC.stepI;rw[if_neg (by omega)];rfl
theorem Zm0(hO:I.Ok)(h:At I pos s):ZdK s.mss=true↔∀x,x<I.rg.n->pos x=I.rg.N:=by
 constructor
 ·intro hd x hx;obtain⟨m,hm⟩:=Zb0 (l:=s.mss) (x:=x) (by rw[h.ml];exact hx);have h1:ZjG m=true:=List.all_eq_true.1 hd m (YaL hm);unfold ZjG at h1;rw[decide_eq_true_eq] at h1
  rcases Nat.lt_or_ge (pos x) I.rg.N with hp|hp
  ·obtain⟨sl,it,hs,hi,hN,hit,htt⟩:=(h.m x m hm).item (InC.pc_ok hO) hx hp (h.inv.at_ x hx hp);have:=ZbJ hit;omega
  ·exact Nat.le_antisymm (h.inv.le x hx) hp
 ·intro hd;refine ZiE h.ml (fun x m hx hm=>?_);have hL:=Zf2 (c:=(I.mc 0).pc);have hM:=h.m x m hm;unfold ZjG;rw[decide_eq_true_eq,hM.its,hd x hx,show I.rg.N/(I.mc 0).pc.sl=I.c.st.toNat from Nat.mul_div_cancel _ hL];unfold PlC.stepI;rw[if_neg (by omega)];exact Nat.zero_le _
def ZrK(I:InC)(x:Nat)(s:WS):WS:=if ZbC I I.rg.n x s=true then Zbp I I.rg.n x s else s
def Zcf(I:InC)(s:WS):Nat->WS
 |0=>s
 |p+1=>ZrK I (p%I.rg.n) (Zcf I s p)
theorem ZrL(hO:I.Ok)(hS:Sm I)(h:At I pos s)(hx:x<I.rg.n) :
  (∃pos',At I pos' (ZrK I x s)/\(ZrK I x s).cnt=s.cnt+1)\/(ZrK I x s=s/\¬I.rg.Can pos x):=by
 unfold ZrK
 by_cases hb:ZbC I I.rg.n x s=true
 ·rw[if_pos hb]
  rcases ZmZ hO hS h hx with⟨_,p',hn,hA⟩|⟨⟨m,hm,hF⟩,hC⟩
  ·left
   refine⟨_,hA,?_⟩;obtain⟨m,hm⟩:=Zb0 (l:=s.mss) (x:=x) (by rw[h.ml];exact hx);have hp:pos x<I.rg.N:=YaK hn.lt hn.le;rw[hA.cnt,h.cnt];exact ZjP _ _ (x:=x) (by rw[Rg.upd_same];exact ZjQ (h.inv.at_ x hx hp) hn) (fun y hy=>by rw[Rg.upd_ne _ _ hy]) _ hx
  ·exfalso
   unfold ZbC at hb;rw[hm] at hb;dsimp only at hb
   rcases hF with hF|⟨it,hit,_,⟨e1,l,hl,hr⟩|⟨e1,l,hl,hq⟩⟩
   ·rw[hF] at hb;cases hb
   ·rw[hit] at hb;dsimp only at hb;rw[if_pos e1,hl] at hb;simp only[YaQ,decide_eq_true_eq] at hb;omega
   ·rw[hit] at hb;dsimp only at hb;rw[if_neg (by rw[e1];decide),if_pos e1,hl] at hb;dsimp only at hb;rw[hq] at hb;simp at hb
 ·rw[if_neg hb]
  rcases ZmZ hO hS h hx with⟨hb',_⟩|⟨_,hC⟩
  ·exact absurd hb' hb
  ·exact .inr ⟨rfl,hC⟩
end
section
variable{I:InC}{s:WS}
theorem Zn4(hO:I.Ok):At I (fun _=>0) (Zbm I I.rg.n):=by
 have hk:=InC.pc_ok hO;have hm:∀(x:Nat) (m:MS),(Ze9 I I.rg.n)[x]?=some m->m=ZdH I x:=fun x m h=>by
  unfold Ze9 at h;have hx:x<I.rg.n:=by have:=ZbJ h;simpa using this
  rw[YaR,List.getElem?_range hx] at h;injection h with h
  exact h.symm
 refine⟨⟨fun x _=>Nat.zero_le _,fun x _ _=>?_,fun x i _ _ h=>by omega⟩,by simp[Zbm,Ze9],by simp[Zbm,Zfa],fun x m h=>?_,fun x l h=>?_,?_⟩
 ·show (I.mc 0).pc.kdN 60 x 0≠0
  rw[ZnX hk];decide
 ·rw[hm x m h];refine⟨rfl,?_,?_,rfl⟩
  ·show I.its x=_
   rw[Nat.zero_div];rfl
  ·show 0=_
   rw[Nat.zero_mod];rfl
 ·have hl:l=⟨0,0,[]⟩:=by
   have:l∈Zfa I.rg.n:=YaL h;unfold Zfa at this;exact(List.mem_replicate.1 this).2
  rw[hl];exact⟨rfl,rfl,Nat.zero_le _⟩
 ·show 0=_
  have:∀n,Zek (fun _=>0) n=0:=fun n=>by induction n with
   |zero=>rfl
   |succ n ih=>rw[Zek,ih]
  exact(this _).symm
theorem Zhc(hO:I.Ok)(hS:Sm I){pos:Nat->Nat}(h:At I pos s):∀p,∃pos',At I pos' (Zcf I s p)
 |0=>⟨pos,h⟩
 |p+1=>by
  obtain⟨pos',h'⟩:=Zhc hO hS h p;have hn:p%I.rg.n<I.rg.n:=Nat.mod_lt _ (Zd7 (InC.pc_ok hO)).n1
  rcases ZrL hO hS h' hn with⟨pos'',hA,_⟩|⟨e,_⟩
  ·exact⟨pos'',hA⟩
  ·exact⟨pos',by rw[Zcf,e];exact h'⟩
theorem Zn5(hO:I.Ok)(hS:Sm I){pos:Nat->Nat}{k:Nat}(h:At I pos (Zcf I s (k*I.rg.n))){y:Nat}(hy:I.rg.Can pos y):∀j,j<=I.rg.n ->
  (Zcf I s (k*I.rg.n)).cnt+1<=(Zcf I s (k*I.rg.n+j)).cnt/\(∃pos',At I pos' (Zcf I s (k*I.rg.n+j)))\/Zcf I s (k*I.rg.n+j)=Zcf I s (k*I.rg.n)/\∀z,z<j->¬I.rg.Can pos z
 |0,_=>.inr ⟨rfl,fun z hz=>by omega⟩
 |j+1,hj=>by
  have hn1:=(Zd7 (InC.pc_ok hO)).n1;have hmod:(k*I.rg.n+j)%I.rg.n=j:=by rw[Nat.mul_comm,Nat.mul_add_mod,Nat.mod_eq_of_lt (by omega)]
  rcases Zn5 hO hS h hy j (by omega) with⟨h1,pos',h2⟩|⟨h1,h2⟩
  ·left
   have e:Zcf I s (k*I.rg.n+(j+1))=ZrK I j (Zcf I s (k*I.rg.n+j)):=by
    rw[<-Nat.add_assoc,Zcf,hmod]
   rw[e]
   rcases ZrL hO hS h2 (show j<I.rg.n by omega) with⟨pos'',hA,hc⟩|⟨e2,_⟩
   ·exact⟨by omega,pos'',hA⟩
   ·rw[e2];exact⟨h1,pos',h2⟩
  ·have e:Zcf I s (k*I.rg.n+(j+1))=ZrK I j (Zcf I s (k*I.rg.n)):=by
    rw[<-Nat.add_assoc,Zcf,hmod,h1]
   rw[e]
   rcases ZrL hO hS h (show j<I.rg.n by omega) with⟨pos'',hA,hc⟩|⟨e2,hC⟩
   ·left
    exact⟨by omega,pos'',hA⟩
   ·right
    refine⟨e2,fun z hz=>?_⟩
    by_cases e3:z=j
    ·rw[e3];exact hC
    ·exact h2 z (by omega)
def InC.tot(I:InC):Nat:=Zek (fun x=>(I.mc 0).pc.cn x I.rg.N) I.rg.n
theorem ZrM(f g:Nat->Nat):∀n,(∀y,y<n->f y<=g y)->Zek f n<=Zek g n/\(∀x,x<n->f x<g x->Zek f n<Zek g n)
 |0,_=>⟨YaF _,fun x hx=>by omega⟩
 |n+1,h=>by
  obtain⟨h1,h2⟩:=ZrM f g n (fun y hy=>h y (by omega));have h3:=h n (by omega);refine⟨by rw[Zek,Zek];omega,fun x hx hl=>?_⟩;rw[Zek,Zek]
  by_cases e:x=n
  ·rw[e] at hl;omega
  ·have:=h2 x (by omega) hl;omega
theorem ZvC{n N:Nat}{pos:Nat->Nat}(hle:∀x,x<n->pos x<=N)(h:¬∀x,x<n->pos x=N):∃x,x<n/\pos x<N:=by
 rcases Classical.em (∃x,x<n/\pos x<N) with h1|h1
 ·exact h1
 ·exact absurd (fun x hx=>Nat.le_antisymm (hle x hx) (Nat.le_of_not_lt (fun h2=>h1 ⟨x,hx,h2⟩))) h
theorem ZiH(hO:I.Ok)(hS:Sm I)(h:At I (fun _=>0) s):∀k,(∃p,p<=k*I.rg.n/\ZdK (Zcf I s p).mss=true)\/k<=(Zcf I s (k*I.rg.n)).cnt
 |0=>.inr (Nat.zero_le _)
 |k+1=>by
  rcases ZiH hO hS h k with⟨p,hp,hd⟩|hk
  ·exact .inl ⟨p,YaH hp (YaW _ (Nat.le_succ k)),hd⟩
  ·obtain⟨pos,hA⟩:=Zhc hO hS h (k*I.rg.n)
   by_cases hd:ZdK (Zcf I s (k*I.rg.n)).mss=true
   ·exact .inl ⟨_,YaW _ (Nat.le_succ k),hd⟩
   ·right
    obtain⟨x,hx,hl⟩:=ZvC hA.inv.le (fun e=>hd ((Zm0 hO hA).2 e));obtain⟨y,hy⟩:=Rg.lives (Zd7 (InC.pc_ok hO)) pos hx hl;rw[Nat.add_mul,Nat.one_mul]
    rcases Zn5 hO hS hA hy I.rg.n (YaF _) with⟨h1,_⟩|⟨_,h2⟩
    ·omega
    ·exact absurd hy (h2 y hy.1)
theorem ZrN(P:Nat->Prop)(h:∃p,P p):∃p,P p/\∀q,q<p->¬P q:=by
 obtain⟨p,hp⟩:=h
 induction p using Nat.strongRecOn with
 |_ p ih=>
  rcases Classical.em (∃q,q<p/\P q) with⟨q,hq,hP⟩|hno
  ·exact ih q hq hP
  ·exact⟨p,hp,fun q hq hP=>hno ⟨q,hq,hP⟩⟩
theorem ZrO(hO:I.Ok)(hS:Sm I):∃p,p<=I.tot*I.rg.n/\ZdK (Zcf I (Zbm I I.rg.n) p).mss=true/\(∀q,q<p->ZdK (Zcf I (Zbm I I.rg.n) q).mss=false)/\At I (fun _=>I.rg.N) (Zcf I (Zbm I I.rg.n) p):=by
 have h:=Zn4 hO;have hex:∃p,p<=I.tot*I.rg.n/\ZdK (Zcf I (Zbm I I.rg.n) p).mss=true:=by
  rcases ZiH hO hS h I.tot with hd|hk
  ·exact hd
  ·refine⟨_,YaF _,?_⟩;obtain⟨pos,hA⟩:=Zhc hO hS h (I.tot*I.rg.n);refine(Zm0 hO hA).2 (fun x hx=>?_)
   rcases Nat.lt_or_ge (pos x) I.rg.N with hl|hl
   ·have h1:=(ZrM (fun x=>(I.mc 0).pc.cn x (pos x)) (fun x=>(I.mc 0).pc.cn x I.rg.N) I.rg.n (fun y hy=>ZjI y (hA.inv.le y hy))).2 x hx (by
     have h2:(I.mc 0).pc.cn x (pos x+1)=(I.mc 0).pc.cn x (pos x)+1:=by
      rw[PlC.cn,if_neg (show ¬(I.mc 0).pc.kdN 60 x (pos x)=0 from hA.inv.at_ x hx hl)]
     have h3:=ZjI (c:=(I.mc 0).pc) x (show pos x+1<=I.rg.N from hl)
     omega)
    rw[<-hA.cnt] at h1;have:Zek (fun x=>(I.mc 0).pc.cn x I.rg.N) I.rg.n=I.tot:=rfl;omega
   ·exact Nat.le_antisymm (hA.inv.le x hx) hl
 obtain⟨p0,hp0,hd0⟩:=hex;obtain⟨p,hd,hmin⟩:=ZrN (fun p=>ZdK (Zcf I (Zbm I I.rg.n) p).mss=true) ⟨p0,hd0⟩;have hle:p<=p0:=Nat.le_of_not_lt (fun hlt=>hmin p0 hlt hd0);obtain⟨pos,hA⟩:=Zhc hO hS h p;refine⟨p,YaH hle hp0,hd,fun q hq=>by simpa using hmin q hq,?_⟩;have hall:=(Zm0 hO hA).1 hd;have hR:=Zd7 (InC.pc_ok hO);refine⟨⟨fun x _=>YaF _,fun x _ hl=>by omega,fun x i hx hk hl=>?_⟩,hA.ml,hA.ll,fun x m hm=>?_,fun x l hl=>?_,?_⟩
 ·have:=hA.inv.sent x i hx hk (by rw[hall _ (Rg.sc_lt hR x)];exact hl)
  rwa [hall x hx] at this
 ·have:=hA.m x m hm
  rwa [hall x (by rw[<-hA.ml];exact ZbJ hm)] at this
 ·have:=hA.l x l hl
  rwa [hall x (by rw[<-hA.ll];exact ZbJ hl),hall _ (Rg.sc_lt hR x)] at this
 ·rw[hA.cnt];exact Zd2 _ _ _ (fun y hy=>by rw[hall y hy])
end
section
variable{own:Nat→Nat}{W:World}{xb:Nat}{I:InC}{mbs lbs:List Nat}{AW:Option Addr}{cW:Nat}{AL:Option Addr}{cL:Nat}
theorem ZtO{s:WS}{pos:Nat->Nat}(h:Zao own W xb I mbs lbs s.mss s.lss AW cW AL cL s.cnt)(hO:I.Ok)(hS:Sm I)(hA:At I pos s)(x:Nat)(hn:mbs.length=I.rg.n)(hl:lbs.length=I.rg.n)(hx:x<I.rg.n)(hxw:(x:Int)<I.c.wk) :
  Calls prog 71 #[.pointer (some ⟨xb,0,none⟩),.int .i64 x] W fun e w'=>∃r,e=.returned (.bool r)/\∃own',Zao own' w' xb I mbs lbs (ZrK I x s).mss (ZrK I x s).lss AW cW AL cL (ZrK I x s).cnt/\(∀i,own' i≠0->own i≠0\/W.heap.size<=i)/\But (fun i=>own i≠0) W w':=by
 have hn8:I.rg.n<=8:=(InC.pc_ok hO).m2;unfold ZrK
 by_cases hb:ZbC I I.rg.n x s=true
 ·rw[if_pos hb];exact Zld h hO I.rg.n x hn hl hx (by omega) hxw hb
 ·rw[if_neg hb]
  rcases ZmZ hO hS hA hx with⟨hb',_⟩|⟨hF,_⟩
  ·exact absurd hb' hb
  ·refine(Zh1 s h hO I.rg.n x hn hl hx (by omega) hxw (fun m hm=>(Zff (hA.small hO hS hx hm).1).cnt) hF).mono ?_;rintro e w' ⟨rfl,hbl⟩;exact⟨false,rfl,own,h.below hbl (fun _ _=>rfl),fun i hi=>.inl hi,But.of_below _ hbl⟩
theorem Zpk(h:Zao own W xb I mbs lbs (Zbm I I.rg.n).mss (Zbm I I.rg.n).lss AW cW AL cL 0)(hO:I.Ok)(hS:Sm I)(hwk:(I.rg.n:Int)=I.c.wk)(hn:mbs.length=I.rg.n)(hl:lbs.length=I.rg.n)(most:Nat)(hm:most=I.tot*I.rg.n)(hm9:most<=1000000000) :
  Calls prog 19 #[.pointer (some ⟨xb,0,none⟩),.int .i64 most] W fun e w'=>∃N:Nat,e=.returned (.tuple #[.int .i64 N,.bool true])/\∃own' s',Zgf own W own' w' xb I mbs lbs s' AW cW AL cL/\At I (fun _=>I.rg.N) s':=by
 obtain⟨N,hN,hd,hnd,hE⟩:=ZrO hO hS;have hn1:=(Zd7 (InC.pc_ok hO)).n1;have hn8:I.rg.n<=8:=(InC.pc_ok hO).m2;refine(ZdL (fun p=>Zcf I (Zbm I I.rg.n) p) N most I.rg.n h hn hn1 (by omega) (by rw[hm];exact hN) hm9 hnd hd (fun p own' w' hp hw=>?_)).mono ?_
 ·obtain⟨pos,hA⟩:=Zhc hO hS (Zn4 hO) p;have hx:p%I.rg.n<I.rg.n:=Nat.mod_lt _ hn1;exact ZtO hw hO hS hA (p%I.rg.n) hn hl hx (by omega)
 ·rintro e w' ⟨rfl,own',hR⟩;exact⟨N,rfl,own',_,hR,hE⟩
end
def stp(I:InC)(t:Nat)(s:Sl4)(F:Nat->Cr)(x:Nat):Cr:=
 if s.1=3 then F x
 else if s.1=4 then
  match ((I.mc 0).pc.chk s.2.2.1 ((I.mc 0).pc.rq x s.2.1))[s.2.2.2]? with
  |some y=>{ F x with G:=ZdJ (decide ((I.mc 0).pc.ph s.2.1=0)) (F x).G y.1.toNat (y.2-y.1).toNat (pcL (F (I.rg.pv x)).G y.1.toNat (y.2-y.1).toNat) }
  |none=>F x
 else ZmS (ZaW (I.mc x) (F x).ms (Zb6 s.1 (t:Int) (s.2.2.1:Int)))
section
variable{I:InC}
theorem ZrP(hO:I.Ok)(t:Nat)(s:Sl4){F F':Nat->Cr}(h:∀x,x<I.rg.n->F x=F' x){x:Nat}(hx:x<I.rg.n):stp I t s F x=stp I t s F' x:=by
 unfold stp;rw[h x hx,h _ (Rg.pv_lt (Zd7 (InC.pc_ok hO)) x)]
theorem ZwS(hO:I.Ok){t q:Nat}(hq:q<(I.mc 0).pc.sl){s:Sl4}(hs:((I.mc 0).pc.stepS 60)[q]?=some s){x:Nat}(hx:x<I.rg.n):I.rg.sy (t*(I.mc 0).pc.sl+q+1) x=stp I t s (I.rg.sy (t*(I.mc 0).pc.sl+q)) x:=by
 obtain⟨a1,a2⟩:=ZdM (c:=(I.mc 0).pc) t q hq;have hsm:=YaL hs;have hs':((I.mc 0).pc.stepS 60)[(t*(I.mc 0).pc.sl+q)%(I.mc 0).pc.sl]?=some s:=by rw[a1];exact hs
 have hkd:I.rg.kd x (t*(I.mc 0).pc.sl+q)=(I.mc 0).pc.kdS x s:=ZjO hs';have hN:(I.mc 0).pc.itN x (t*(I.mc 0).pc.sl+q)=(I.mc 0).pc.itS x (t:Int) s:=by
  unfold PlC.itN;rw[a1,a2,hs]
 rw[Rg.sy];unfold stp
 by_cases h3:s.1=3
 ·rw[if_pos h3];have:(I.mc 0).pc.kdS x s=0\/(I.mc 0).pc.kdS x s=2:=by
   unfold PlC.kdS;rw[if_pos h3]
   split
   ·exact .inr rfl
   ·exact .inl rfl
  rw[hkd,if_neg (by omega),if_neg (by omega)]
 ·rw[if_neg h3]
  by_cases h4:s.1=4
  ·rw[if_pos h4]
   by_cases hb:s.2.2.2<((I.mc 0).pc.chk s.2.2.1 ((I.mc 0).pc.rq x s.2.1)).length
   ·have hk3:I.rg.kd x (t*(I.mc 0).pc.sl+q)=3:=by
     rw[hkd];unfold PlC.kdS;rw[if_neg h3,if_pos h4,if_pos hb]
    obtain⟨k,j,b,y,hp1,hq1,hd1,hsl,hy,hi1,hi2⟩:=Zfh hO hx hk3;rw[hs'] at hsl;injection hsl with hsl
    subst hsl;dsimp only at hy ⊢;rw[hk3,if_neg (by decide),if_pos rfl,hy];dsimp only;have hm:(I.rg.msg (I.rg.pv x) (t*(I.mc 0).pc.sl+q-1) (I.rg.sy (t*(I.mc 0).pc.sl+q) (I.rg.pv x))).2=pcL (I.rg.sy (t*(I.mc 0).pc.sl+q) (I.rg.pv x)).G y.1.toNat (y.2-y.1).toNat:=by
     show (match (I.mc 0).pc.itN (I.rg.pv x) (t*(I.mc 0).pc.sl+q-1) with|some it=>ZwO it (I.rg.sy (t*(I.mc 0).pc.sl+q) (I.rg.pv x)).G|none=>((0,0,0,0,0),[])).2=_
     rw[hi2];rfl
    rw[<-hm]
    show (match (I.mc 0).pc.itN x (t*(I.mc 0).pc.sl+q) with|some it=>_|none=>_)=_
    rw[hi1]
   ·have hk0:I.rg.kd x (t*(I.mc 0).pc.sl+q)=0:=by
     rw[hkd];unfold PlC.kdS;rw[if_neg h3,if_pos h4,if_neg hb]
    rw[hk0,if_neg (by decide),if_neg (by decide),YaN (by omega)]
  ·rw[if_neg h4];have hk1:I.rg.kd x (t*(I.mc 0).pc.sl+q)=1:=by
    rw[hkd];unfold PlC.kdS;rw[if_neg h3,if_neg h4]
   rw[hk1,if_pos rfl]
   show (match (I.mc 0).pc.itN x (t*(I.mc 0).pc.sl+q) with|some it=>_|none=>_)=_
   rw[hN];unfold PlC.itS;rw[if_neg h3,if_neg h4]
def Zgw(I:InC)(t:Nat)(l:List Sl4)(F:Nat->Cr):Nat->Cr:=l.foldl (fun F s=>stp I t s F) F
theorem Zbx(t:Nat)(l k:List Sl4)(F:Nat->Cr):Zgw I t (l++k) F=Zgw I t k (Zgw I t l F):=List.foldl_append
theorem ZrQ(hO:I.Ok)(t:Nat):∀q,q<=(I.mc 0).pc.sl->∀x,x<I.rg.n->I.rg.sy (t*(I.mc 0).pc.sl+q) x=Zgw I t (((I.mc 0).pc.stepS 60).take q) (I.rg.sy (t*(I.mc 0).pc.sl)) x
 |0,_,x,hx=>rfl
 |q+1,h,x,hx=>by
  obtain⟨s,hs⟩:=Zb0 (l:=(I.mc 0).pc.stepS 60) (x:=q) (show q<((I.mc 0).pc.stepS 60).length from h);rw[<-Nat.add_assoc,ZwS hO (by omega) hs hx,List.take_add_one,hs,Zbx];exact ZrP hO t s (fun y hy=>ZrQ hO t q (by omega) y hy) hx
theorem ZvD(hO:I.Ok)(t:Nat){x:Nat}(hx:x<I.rg.n):I.rg.sy ((t+1)*(I.mc 0).pc.sl) x=Zgw I t ((I.mc 0).pc.stepS 60) (I.rg.sy (t*(I.mc 0).pc.sl)) x:=by
 have:=ZrQ hO t (I.mc 0).pc.sl (YaF _) x hx;rw[YaX (show ((I.mc 0).pc.stepS 60).length<=(I.mc 0).pc.sl from YaF _)] at this;rw[Nat.add_mul,Nat.one_mul];exact this
end
