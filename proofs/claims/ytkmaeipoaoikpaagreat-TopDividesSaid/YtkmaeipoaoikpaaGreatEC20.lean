/- Lemmas. -/
import Derived.Test.YtkmaeipoaoikpaaGreatEC19
namespace Go.Proofs.YtkmaeipoaoikpaaGreat
set_option linter.all false
set_option maxRecDepth 100000
set_option maxHeartbeats 8000000
open Lib (hid)
open Tryz
section
open Go.RowKit
def ZjH(K:MC)(x:ZaB):Bool:=
 decide (0<=x.1.2.1) && decide (x.1.2.1<=1000000) && (!decide (x.1.1=1) || (decide (-1000<=x.1.2.2) && decide (x.1.2.2<=1000))) && (!decide (x.1.1=5) || (decide (0<=x.1.2.2) && decide (x.1.2.2.toNat<K.pc.nb))) &&
 (!(decide (x.1.1=3) || decide (x.1.1=4)) || (decide (0<=x.2.2.2.1) && decide (x.2.2.2.1<=x.2.2.2.2) && decide (x.2.2.2.2<=K.NP)))
theorem Zfe{K:MC}{x:ZaB}(h:ZjH K x=true):Zf1 K x:=by
 simp only[ZjH,YaQ,decide_eq_true_eq,Bool.or_eq_true,Bool.not_eq_true',decide_eq_false_iff_not,Bool.or_eq_false_iff] at h;obtain⟨⟨⟨⟨h1,h2⟩,h3⟩,h4⟩,h5⟩:=h;refine⟨⟨h1,h2⟩,fun e=>?_,fun e=>?_,fun e=>?_⟩
 ·rcases h3 with h|h
  ·exact absurd e h
  ·exact h
 ·rcases h4 with h|h
  ·exact absurd e h
  ·exact⟨x.1.2.2.toNat,by omega,h.2⟩
 ·rcases h5 with h|⟨⟨h6,h7⟩,h8⟩
  ·rcases e with e|e
   ·exact absurd e h.1
   ·exact absurd e h.2
  ·exact⟨x.2.2.2.1.toNat,x.2.2.2.2.toNat,by omega,by omega,by omega,by omega⟩
def Zlc(s:MS):Bool:=decide (s.cnt<1000000000000) && decide (s.opn.length<1000000) && decide (s.rcd.length<1000)
theorem Zff{s:MS}(h:Zlc s=true):s.Small:=by
 simp only[Zlc,YaQ,decide_eq_true_eq] at h;exact⟨h.1.1,h.1.2,h.2⟩
def Zbp(I:InC)(n x:Nat)(s:WS):WS:=
 match s.mss[x]? with
 |none=>s
 |some m=>
  match m.its[m.nx]? with
  |none=>s
  |some it=>
   if it.1.1=3 then
    match s.lss[x]? with
    |none=>s
    |some l=>⟨s.mss.set x (ZaR (I.mc x) m it.1.2.1),s.lss.set x ⟨l.s+1,l.r,l.q++[(it.2.2.1,pcL m.G it.2.2.2.1.toNat (it.2.2.2.2-it.2.2.2.1).toNat)]⟩,s.cnt+1⟩
   else if it.1.1=4 then
    match s.lss[(x+n-1)%n]? with
    |none=>s
    |some l=>
     match l.q with
     |[]=>s
     | (_,vs)::q=>⟨s.mss.set x (ZaR (I.mc x) { m with G:=ZdJ it.2.1.2 m.G it.2.2.2.1.toNat (it.2.2.2.2-it.2.2.2.1).toNat vs } it.1.2.1),s.lss.set ((x+n-1)%n) ⟨l.s,l.r+1,q⟩,s.cnt+1⟩
   else ⟨s.mss.set x (ZaR (I.mc x) (ZaW (I.mc x) m it) it.1.2.1),s.lss,s.cnt+1⟩
def ZbC(I:InC)(n x:Nat)(s:WS):Bool:=
 match s.mss[x]? with
 |none=>false
 |some m=>
  match m.its[m.nx]? with
  |none=>false
  |some it=>
   ZjH (I.mc x) it && (Zlc m && (decide (s.cnt<1000000000000) &&
   (if it.1.1=3 then
    match s.lss[x]? with
    |none=>false
    |some l=>decide (l.s-l.r<I.c.ca.toNat) && decide (l.s<1000000000)
   else if it.1.1=4 then
    match s.lss[(x+n-1)%n]? with
    |none=>false
    |some l=>
     match l.q with
     |[]=>false
     | (t,vs)::_=>decide (t=it.2.2.1) && decide (vs.length=(it.2.2.2.2-it.2.2.2.1).toNat)
   else decide (it.1.1=1) || (decide (it.1.1=2) || (decide (it.1.1=5) || decide (it.1.1=6))))))
theorem Zld{own:Nat->Nat}{W:World}{xb:Nat}{I:InC}{mbs lbs:List Nat}{s:WS}{AW:Option Addr}{cW:Nat}{AL:Option Addr}{cL:Nat}(h:Zao own W xb I mbs lbs s.mss s.lss AW cW AL cL s.cnt)(hO:I.Ok)(n x:Nat)(hn:mbs.length=n)(hl:lbs.length=n)(hx:x<n)(hn64:n<=64)(hxw:(x:Int)<I.c.wk)(hB:ZbC I n x s=true) :
  Calls prog 71 #[.pointer (some ⟨xb,0,none⟩),.int .i64 x] W fun e w'=>∃r,e=.returned (.bool r)/\∃own',Zao own' w' xb I mbs lbs (Zbp I n x s).mss (Zbp I n x s).lss AW cW AL cL (Zbp I n x s).cnt/\(∀i,own' i≠0->own i≠0\/W.heap.size<=i)/\But (fun i=>own i≠0) W w':=by
 unfold ZbC at hB;unfold Zbp
 split at hB
 ·cases hB
 ·rename_i m hm
  split at hB
  ·cases hB
  ·rename_i it hit
   simp only[YaQ,decide_eq_true_eq] at hB;obtain⟨h1,h2,h3,h4⟩:=hB
   (try simp only[hm,hit])
   by_cases e3:it.1.1=3
   ·rw[if_pos e3] at h4 ⊢
    split at h4
    ·cases h4
    ·rename_i l hl'
     simp only[YaQ,decide_eq_true_eq] at h4
     (try simp only[hl'])
     refine(ZhR h hO n x m l it hn hl hx hn64 hxw h3 hm hl' hit e3 (Zfe h1) (Zff h2) h4.1 h4.2).mono ?_;rintro e w' ⟨e1,own',hw,hnw,hb⟩;exact⟨true,e1,own',hw,hnw,hb⟩
   ·rw[if_neg e3] at h4 ⊢
    by_cases e4:it.1.1=4
    ·rw[if_pos e4] at h4 ⊢
     split at h4
     ·cases h4
     ·rename_i l hl'
      (try simp only[hl'])
      split at h4
      ·cases h4
      ·rename_i t vs q hq
       simp only[YaQ,decide_eq_true_eq] at h4;obtain⟨ht,hv⟩:=h4;subst ht
       (try simp only[hq])
       refine(ZhS h hO n x _ m l it vs q hn hl hx hn64 hxw h3 hm rfl hl' hit e4 (Zfe h1) (Zff h2) hq hv).mono ?_;rintro e w' ⟨e1,own',hw,hnw,hb⟩;exact⟨true,e1,own',hw,hnw,hb⟩
    ·rw[if_neg e4] at h4 ⊢;simp only[Bool.or_eq_true,decide_eq_true_eq] at h4;refine(ZjD h hO n x m it hn hl hx hn64 hxw h3 hm hit h4 (Zfe h1) (Zff h2)).mono ?_;rintro e w' ⟨e1,own',hw,hnw,hb⟩;exact⟨true,e1,own',hw,hnw,hb⟩
def Zbm(I:InC)(n:Nat):WS:=⟨Ze9 I n,Zfa n,0⟩
end
section
open Go.RowKit
variable(c:PlC)
def PlC.sl:Nat:=(c.stepS 60).length
def PlC.itN(x i:Nat):Option ZaB:=match (c.stepS 60)[i%c.sl]? with
 |some s=>c.itS x ((i/c.sl:Nat):Int) s
 |none=>none
def PlC.nxf(x t q:Nat):Nat:=(((c.stepS 60).take q).filterMap (c.itS x (t:Int))).length
def PlC.cn(x:Nat):Nat->Nat
 |0=>0
 |p+1=>PlC.cn x p+if c.kdN 60 x p=0 then 0 else 1
end
section
open Go.RowKit
variable{c:PlC}
theorem Zgt(x:Nat)(t:Int)(s:Sl4):c.kdS x s=0↔c.itS x t s=none:=by
 unfold PlC.kdS PlC.itS
 split
 ·split
  ·rename_i h
   rw[YaA h];simp
  ·rename_i h
   rw[YaN (by omega)];simp
 ·split
  ·split
   ·rename_i h
    rw[YaA h];simp
   ·rename_i h
    rw[YaN (by omega)];simp
  ·simp
theorem Zf2:1<=c.sl:=Zk9 c 60
theorem ZdM(t q:Nat)(hq:q<c.sl):(t*c.sl+q)%c.sl=q/\(t*c.sl+q)/c.sl=t:=by
 have:=Zf2 (c:=c);rw[Nat.mul_comm];exact⟨by rw[Nat.mul_add_mod,Nat.mod_eq_of_lt hq],by rw[Nat.mul_add_div (by omega),Nat.div_eq_of_lt hq,Nat.add_zero]⟩
theorem ZdZ(p:Nat):p=p/c.sl*c.sl+p%c.sl/\p%c.sl<c.sl:=by
 refine⟨?_,Nat.mod_lt _ Zf2⟩;have:=Nat.div_add_mod p c.sl;rw[Nat.mul_comm] at this;omega
theorem Zgu(x t q:Nat)(hq:q<c.sl):c.nxf x t (q+1)=c.nxf x t q+if c.kdN 60 x (t*c.sl+q)=0 then 0 else 1:=by
 unfold PlC.nxf;have hs:(c.stepS 60)[q]?=some (c.stepS 60)[q]:=YaA hq;rw[List.take_add_one,hs,List.filterMap_append,YaS]
 congr 1
 have e:c.kdN 60 x (t*c.sl+q)=c.kdS x (c.stepS 60)[q]:=by
  unfold PlC.kdN;have:=(ZdM (c:=c) t q hq).1;unfold PlC.sl at this;unfold PlC.sl;rw[this,hs]
 rw[e]
 by_cases h:c.kdS x (c.stepS 60)[q]=0
 ·have h2:=(Zgt x (t:Int) _).1 h;rw[if_pos h];simp[h2]
 ·have h2:c.itS x (t:Int) (c.stepS 60)[q]≠none:=fun e=>h ((Zgt x (t:Int) _).2 e)
  obtain⟨it,hit⟩:=Option.ne_none_iff_exists'.1 h2;rw[if_neg h];simp[hit]
theorem Zru(x t q q':Nat)(hq:q<=q')(hL:q'<=c.sl)(h:∀i,q<=i->i<q'->c.kdN 60 x (t*c.sl+i)=0):c.nxf x t q'=c.nxf x t q:=by
 induction q' with
 |zero=>rw[show q=0 by omega]
 |succ q' ih=>
  by_cases e:q=q'+1
  ·rw[e]
  ·rw[Zgu x t q' (by omega),if_pos (h q' (by omega) (by omega)),Nat.add_zero];exact ih (by omega) (by omega) (fun i h1 h2=>h i h1 (by omega))
theorem ZnY(x p p':Nat)(hp:p<=p')(h:∀i,p<=i->i<p'->c.kdN 60 x i=0):c.cn x p'=c.cn x p:=by
 induction p' with
 |zero=>rw[show p=0 by omega]
 |succ p' ih=>
  by_cases e:p=p'+1
  ·rw[e]
  ·rw[PlC.cn,if_pos (h p' (by omega) (by omega)),Nat.add_zero];exact ih (by omega) (fun i h1 h2=>h i h1 (by omega))
theorem ZjI(x:Nat){p p':Nat}(hp:p<=p'):c.cn x p<=c.cn x p':=by
 induction p' with
 |zero=>rw[show p=0 by omega];exact YaF _
 |succ p' ih=>
  by_cases e:p=p'+1
  ·rw[e];exact YaF _
  ·rw[PlC.cn];have:=ih (by omega);omega
theorem ZjJ(x t:Nat):∀q,q<=c.sl->c.cn x (t*c.sl+q)=c.cn x (t*c.sl)+c.nxf x t q
 |0,_=>by simp[PlC.nxf]
 |q+1,h=>by
  rw[<-Nat.add_assoc,PlC.cn,ZjJ x t q (by omega),Zgu x t q (by omega)];omega
theorem Zrv(h:c.Ok)(x t:Nat)(hx:x<c.m):c.nxf x t c.sl=(c.itemsI x (t:Int)).length:=by
 unfold PlC.nxf PlC.sl;rw[List.take_length,Zg6 h x hx]
theorem Zvt(h:c.Ok)(x t q:Nat)(hx:x<c.m)(hq:q<c.sl)(hk:c.kdN 60 x (t*c.sl+q)≠0):∃s it,(c.stepS 60)[q]?=some s/\c.itS x (t:Int) s=some it/\c.itN x (t*c.sl+q)=some it/\(c.itemsI x (t:Int))[c.nxf x t q]?=some it:=by
 have hs:(c.stepS 60)[q]?=some (c.stepS 60)[q]:=YaA hq;have ha:=ZdM (c:=c) t q hq;have e:c.kdN 60 x (t*c.sl+q)=c.kdS x (c.stepS 60)[q]:=by
  unfold PlC.kdN;have:=ha.1;unfold PlC.sl at this;unfold PlC.sl;rw[this,hs]
 rw[e] at hk;have h2:c.itS x (t:Int) (c.stepS 60)[q]≠none:=fun e=>hk ((Zgt x (t:Int) _).2 e)
 obtain⟨it,hit⟩:=Option.ne_none_iff_exists'.1 h2;refine⟨_,it,hs,hit,?_,?_⟩
 ·unfold PlC.itN;rw[ha.1,ha.2,hs];exact hit
 ·rw[Zg6 h x hx];have h3:c.stepS 60=(c.stepS 60).take q++(c.stepS 60)[q]::(c.stepS 60).drop (q+1):=by
   rw[<-List.drop_eq_getElem_cons hq,List.take_append_drop]
  have h4:(c.stepS 60).filterMap (c.itS x (t:Int))=((c.stepS 60).take q).filterMap (c.itS x (t:Int))++it::((c.stepS 60).drop (q+1)).filterMap (c.itS x (t:Int)):=by
   rw[h3,List.filterMap_append,YaO,hit,<-h3]
  rw[h4];unfold PlC.nxf;rw[YaU (YaF _),Nat.sub_self];rfl
theorem Zrw(x t:Nat):c.kdN 60 x (t*c.sl+(c.sl-1))=1:=by
 have hp:=Zf2 (c:=c);have:=(ZdM (c:=c) t (c.sl-1) (by omega)).1;unfold PlC.kdN;unfold PlC.sl at this ⊢;rw[this,Zpc];rfl
theorem ZtE(h:c.Ok)(x t:Nat):c.kdN 60 x (t*c.sl)=1:=by
 unfold PlC.kdN PlC.sl;rw[Nat.mul_mod_left,Zg8 h];rfl
end
section
open Go.RowKit
structure Cr where
 P:List Int
 M:List Int
 G:List Int
 rcd:List (List Int×List Int)
 opn:List Int
def ZmS(m:MS):Cr:=⟨m.P,m.M,m.G,m.rcd,m.opn⟩
def Cr.ms(s:Cr):MS:=⟨s.P,s.M,s.G,s.rcd,[],0,0,s.opn⟩
theorem Zvu(K:MC)(m:MS)(it:ZaB):ZmS (ZaW K m it)=ZmS (ZaW K (ZmS m).ms it)/\(ZaW K m it).its=m.its/\(ZaW K m it).nx=m.nx/\(ZaW K m it).cnt=m.cnt:=by
 unfold ZaW
 split
 ·exact⟨rfl,rfl,rfl,rfl⟩
 ·split
  ·exact⟨rfl,rfl,rfl,rfl⟩
  ·split
   ·split<;>exact⟨rfl,rfl,rfl,rfl⟩
   ·split<;>exact⟨rfl,rfl,rfl,rfl⟩
theorem Zrx(K:MC)(m:MS)(t:Int):ZmS (ZaR K m t)=ZmS m:=by
 unfold ZaR
 split<;>rfl
def ZwO(it:ZaB)(G:List Int):Zfo×List Int:=(it.2.2.1,pcL G it.2.2.2.1.toNat (it.2.2.2.2-it.2.2.2.1).toNat)
def InC.rg(I:InC):Rg Cr (Zfo×List Int) where
 n:=(I.mc 0).pc.m
 N:=I.c.st.toNat*(I.mc 0).pc.sl
 kd:=(I.mc 0).pc.kdN 60
 loc x i s:=match (I.mc 0).pc.itN x i with
  |some it=>ZmS (ZaW (I.mc x) s.ms it)
  |none=>s
 msg x i s:=match (I.mc 0).pc.itN x i with
  |some it=>ZwO it s.G
  |none=>((0,0,0,0,0),[])
 rcv x i v s:=match (I.mc 0).pc.itN x i with
  |some it=>{ s with G:=ZdJ it.2.1.2 s.G it.2.2.2.1.toNat (it.2.2.2.2-it.2.2.2.1).toNat v.2 }
  |none=>s
 s0 x:=ZmS (ZdH I x)
theorem Zd7{I:InC}(h:(I.mc 0).pc.Ok):I.rg.Ok:=
 ⟨h.m1,fun e x i=>Zvs e 60 x i,fun x i _=>ZtD h 60 x i,fun x e=>by have:=ZnX h 60 x;exact absurd (this.symm.trans e) (by decide),fun x y i=>Zvr 60 x y i⟩
structure Zvv(I:InC)(x p:Nat)(m:MS):Prop where
 cr:ZmS m=I.rg.sy p x
 its:m.its=(I.mc 0).pc.stepI I.c.st.toNat x ((p/(I.mc 0).pc.sl:Nat):Int)
 nx:m.nx=(I.mc 0).pc.nxf x (p/(I.mc 0).pc.sl) (p%(I.mc 0).pc.sl)
 cnt:m.cnt=(I.mc 0).pc.cn x p
end
section
open Go.RowKit
variable{I:InC}{x p p':Nat}{m:MS}
theorem ZnZ(hx:x<(I.mc 0).pc.m){t:Nat}(ht:t<I.c.st.toNat):(I.mc 0).pc.stepI I.c.st.toNat x (t:Int)=(I.mc 0).pc.itemsI x (t:Int):=by
 unfold PlC.stepI;rw[if_pos ⟨by omega,by omega,by omega,by omega⟩]
theorem Zvv.item(hk:(I.mc 0).pc.Ok)(h:Zvv I x p m)(hx:x<(I.mc 0).pc.m)(hp:p<I.rg.N)(h0:I.rg.kd x p≠0):∃s it,((I.mc 0).pc.stepS 60)[p%(I.mc 0).pc.sl]?=some s/\(I.mc 0).pc.itS x ((p/(I.mc 0).pc.sl:Nat):Int) s=some it/\(I.mc 0).pc.itN x p=some it/\m.its[m.nx]?=some it/\p/(I.mc 0).pc.sl<I.c.st.toNat:=by
 obtain⟨e,hq⟩:=ZdZ (c:=(I.mc 0).pc) p;have ht:p/(I.mc 0).pc.sl<I.c.st.toNat:=Nat.div_lt_of_lt_mul (by rw[Nat.mul_comm];exact hp);obtain⟨s,it,h1,h2,h3,h4⟩:=Zvt hk x (p/(I.mc 0).pc.sl) (p%(I.mc 0).pc.sl) hx hq (by rw[<-e];exact h0);rw[<-e] at h3;exact⟨s,it,h1,h2,h3,by rw[h.its,h.nx,ZnZ hx ht];exact h4,ht⟩
theorem Zvv.next(hk:(I.mc 0).pc.Ok)(h:Zvv I x p m)(hx:x<(I.mc 0).pc.m)(hp:p<I.rg.N)(h0:I.rg.kd x p≠0)(hn:I.rg.Nx x p p'){m':MS}(h1:m'.its=m.its)(h2:m'.nx=m.nx)(h3:m'.cnt=m.cnt)(hc:ZmS m'=I.rg.sy p' x):Zvv I x p' (ZaR (I.mc x) m' ((p/(I.mc 0).pc.sl:Nat):Int)):=by
 obtain⟨e,hq⟩:=ZdZ (c:=(I.mc 0).pc) p;have ht:p/(I.mc 0).pc.sl<I.c.st.toNat:=Nat.div_lt_of_lt_mul (by rw[Nat.mul_comm];exact hp);have hL:=Zf2 (c:=(I.mc 0).pc);generalize hT:p/(I.mc 0).pc.sl=t at *;generalize hQ:p%(I.mc 0).pc.sl=q at *;have hit:m'.its.length=(I.mc 0).pc.nxf x t (I.mc 0).pc.sl:=by rw[h1,h.its,hT,ZnZ hx ht,Zrv hk x t hx]
 have hnx:m'.nx=(I.mc 0).pc.nxf x t q:=by rw[h2,h.nx,hT,hQ]
 have h0':(I.mc 0).pc.kdN 60 x (t*(I.mc 0).pc.sl+q)≠0:=by rw[<-e];exact h0
 have hs:=Zgu (c:=(I.mc 0).pc) x t q hq;rw[if_neg h0'] at hs;have hlt:=hn.lt;have hcn:(I.mc 0).pc.cn x p'=m'.cnt+1:=by
  rw[ZnY x (p+1) p' hlt (fun i h4 h5=>hn.no i (by omega) h5),PlC.cn,if_neg (show ¬(I.mc 0).pc.kdN 60 x p=0 from h0),h3,h.cnt]
 by_cases hl:q+1=(I.mc 0).pc.sl
 ·have hp':p'=p+1:=by
   by_cases e1:p'=p+1
   ·exact e1
   ·have h4:=hn.no (p+1) (by omega) (by omega);have h5:=ZtE hk x (t+1);rw[show (t+1)*(I.mc 0).pc.sl=p+1 by rw[Nat.add_mul,Nat.one_mul];omega] at h5;exact absurd (h5.symm.trans h4) (by decide)
  have hpt:p'=(t+1)*(I.mc 0).pc.sl+0:=by rw[Nat.add_mul,Nat.one_mul];omega
  obtain⟨a1,a2⟩:=ZdM (c:=(I.mc 0).pc) (t+1) 0 (by omega);rw[<-hpt] at a1 a2;have hif:m'.nx+1=m'.its.length:=by rw[hit,hnx,<-hl,hs]
  refine⟨by rw[Zrx];exact hc,?_,?_,?_⟩
  ·unfold ZaR;rw[if_pos hif,a2];rfl
  ·unfold ZaR;rw[if_pos hif,a1];rfl
  ·unfold ZaR;rw[if_pos hif];exact hcn.symm
 ·have hp':p'<=t*(I.mc 0).pc.sl+((I.mc 0).pc.sl-1):=by
   by_cases e1:p'<=t*(I.mc 0).pc.sl+((I.mc 0).pc.sl-1)
   ·exact e1
   ·have h4:=hn.no (t*(I.mc 0).pc.sl+((I.mc 0).pc.sl-1)) (by omega) (by omega);exact absurd ((Zrw (c:=(I.mc 0).pc) x t).symm.trans h4) (by decide)
  obtain⟨q',hq'⟩:∃q',p'=t*(I.mc 0).pc.sl+q':=⟨p'-t*(I.mc 0).pc.sl,by omega⟩;obtain⟨a1,a2⟩:=ZdM (c:=(I.mc 0).pc) t q' (by omega);rw[<-hq'] at a1 a2;have hst:=Zru (c:=(I.mc 0).pc) x t (q+1) q' (by omega) (by omega) (fun i h4 h5=>hn.no _ (by omega) (by omega));have hlast:(I.mc 0).pc.nxf x t (I.mc 0).pc.sl=(I.mc 0).pc.nxf x t ((I.mc 0).pc.sl-1)+1:=by
   have:=Zgu (c:=(I.mc 0).pc) x t ((I.mc 0).pc.sl-1) (by omega);rw[Zrw,if_neg (by decide),Nat.sub_add_cancel hL] at this;exact this
  have hmono:(I.mc 0).pc.nxf x t (q+1)<=(I.mc 0).pc.nxf x t ((I.mc 0).pc.sl-1):=by
   have b1:=ZjJ (c:=(I.mc 0).pc) x t (q+1) (by omega);have b2:=ZjJ (c:=(I.mc 0).pc) x t ((I.mc 0).pc.sl-1) (by omega);have b3:=ZjI (c:=(I.mc 0).pc) x (show t*(I.mc 0).pc.sl+(q+1)<=t*(I.mc 0).pc.sl+((I.mc 0).pc.sl-1) by omega);omega
  have hif:¬m'.nx+1=m'.its.length:=by rw[hit,hnx];omega
  refine⟨by rw[Zrx];exact hc,?_,?_,?_⟩
  ·unfold ZaR;rw[if_neg hif,a2];dsimp only;rw[h1,h.its,hT]
  ·unfold ZaR;rw[if_neg hif,a1,a2];dsimp only;rw[hst,hs,hnx]
  ·unfold ZaR;rw[if_neg hif];exact hcn.symm
end
section
open Go.ChangeShapes Go.WideShapes Go.ChangeAt Go.RowKit
theorem ZmT{w:World}{a:Addr}{n:Nat}{xs:List Value}(hn:xs.length=n)(h:∀i u,xs[i]?=some u->w.cell? (a.add i)=some u):Rd w 1 (some a) n xs:=by
 refine⟨by omega,fun h0=>?_⟩;obtain⟨b,o,sp⟩:=a;have h0':=h 0 xs[0] (YaA (by omega));have hs:sp=none:=by
  have:=World.cell?_spot h0'
  simpa [Addr.add] using this
 subst hs;refine⟨b,o,rfl,?_,fun j u hu=>?_⟩
 ·have:=World.block_lt_of_cell? w _ h0'
  simpa [Addr.add] using this
 ·have hc:=h j u hu
  rwa [show ((⟨b,o,none⟩:Addr).add j)=⟨b,o+j,none⟩ by unfold Addr.add;by_cases hj:j=0<;>simp[hj]] at hc
end
section
open Go.ChangeShapes Go.WideShapes Go.ChangeAt Go.RowKit
variable{H:Type}{enc:TypeId×Value→H}{P:Program}{w:World}{base:Nat}{spare:Nat→Bool}{held:Bool}{r:Reach}{b0:Nat}{t e:TypeId}{v:Value}{d:DataW H}{p:List MemPlace}
theorem Zg9{k:IntKind}{fuel:Nat}{c:Value}{x:DataW H×List MemPlace}(ht:P.underlying t=some (.slice e))(he:P.underlying e=some (.int k))(hc:P.cellsOf e=1)
  (h:DataW.trod enc P w base spare held fuel t [c]=some x) :
  ∃(A:Option Addr) (n cap:Nat) (l:List Int),c=.slice A n cap/\(n<=9223372036854775807/\n<=cap/\cap<=9223372036854775807)/\l.length=n/\Rd w 1 A n (l.map (Value.int k))/\(∀z∈l,(Lit.int k z).wf=true) /\
   ((n=0/\x.1=.nil)\/∃es sp,x.1=.slice es sp/\n<=es.length+sp.length):=by
 rcases Go.Deep.open_slice1 ht hc h with⟨hcs,hx⟩|⟨a,n,cap,m,fu,V,D,Pl,hcs,_,hl,hm,hmm,hx,hi⟩
 ·simp at hcs;subst hcs;exact⟨none,0,0,[],rfl,by simp,rfl,Rd.nil _ _ _,by simp,.inl ⟨rfl,by rw[hx]⟩⟩
 ·simp at hcs;subst hcs;have hnm:n<=m:=by rw[hmm];split<;>omega
  have hall:∀i,i<n->∃z:Int,V i=.int k z/\(Lit.int k z).wf=true:=by
   intro i him;obtain⟨_,ht⟩:=hi i (by omega);obtain⟨n5,h5,w5⟩:=ZcK he ht;exact⟨n5,h5,w5⟩
  obtain⟨f,hf'⟩:=Go.Deep.choose_lt hall;refine⟨some a,n,cap,(List.range n).map f,rfl,by unfold maxLen at hm;omega,by simp,ZmT (by simp) (fun i u hu=>?_),?_,.inr ⟨_,_,by rw[hx],by simp⟩⟩
  ·have hin:i<n:=by have:=(YaG.1 hu).1;simpa using this
   rw[(hi i (by omega)).1,(hf' i hin).1,<-hu];simp[hin]
  ·intro x hx;simp only[List.mem_map,List.mem_range] at hx;obtain⟨i,hi,rfl⟩:=hx;exact(hf' i hi).2
end
section
open Go.RowKit
theorem Zpd(A B:Option Addr)(N M c d:Nat)(w:World) :
  Calls prog 161 #[.agg #[.slice A N c,.slice B M d]] w fun e w'=>e=.returned (.agg #[.slice A N c,.slice B M d])/\Bz0 w w':=by
 go_enter func161,ntmps161
 go_wp2;exact bodyPost_ret (v:=.agg #[.slice A N c,.slice B M d]) (by simp[results,results161,go_sem]) rfl ⟨rfl,(bA0 _).alloc (by simp) _⟩
theorem ZjK(A B A' B':Option Addr)(N M N' M' c d c' d':Nat)(Ps Ms Ps' Ms':List Int)(w:World)(h1:Ps.length=N)(h2:Ms.length=M)(h3:Ps'.length=N')(h4:Ms'.length=M')(r1:Rd w 1 A N (iv Ps))(r2:Rd w 1 B M (iv Ms))(r3:Rd w 1 A' N' (iv Ps'))(r4:Rd w 1 B' M' (iv Ms'))
  (l1:N<=1000000) (l2:M<=1000000) (l3:N'<=1000000) (l4:M'<=1000000) :
  Calls prog 160 #[.agg #[.slice A N c,.slice B M d],.agg #[.slice A' N' c',.slice B' M' d']] w fun e w'=>e=.returned (.bool (decide (Ps=Ps') && decide (Ms=Ms')))/\Bz0 w w':=by
 have HC1:=hid (fun W (hb:Below w.heap.size w W)=>ZgH A A' N N' c c' Ps Ps' W h1 h3 (r1.below hb) (r3.below hb) (by omega) (by omega));have HC2:=hid (fun W (hb:Below w.heap.size w W)=>ZgH B B' M M' d d' Ms Ms' W h2 h4 (r2.below hb) (r4.below hb) (by omega) (by omega));clear h1 h2 h3 h4 r1 r2 r3 r4
 go_enter func160,ntmps160
 go_wp2_with fail;obtain⟨w0,hw0⟩:∃w0,(w.alloc (.cells #[.slice A N c,.slice B M d] 176)).alloc (.cells #[.slice A' N' c',.slice B' M' d'] 176)=w0:=⟨_,rfl⟩;have k0:Below w.heap.size w w0:=by rw[<-hw0];exact(bA0 _).alloc (by simp) _
 have hA0:Blk w0 w.heap.size 176 #[.slice A N c,.slice B M d]:=by rw[<-hw0];exact(Blk.new w _ _).alloc _
 have hB0:Blk w0 (w.heap.size+1) 176 #[.slice A' N' c',.slice B' M' d']:=by rw[<-hw0];exact Blk.new' _ _ (by simp)
 rw[hw0];clear hw0;((with_reducible refine(HC1.out w0 k0).mono ?_);rintro e w1 ⟨rfl,hb1⟩);have hA1:=hA0.kept hb1;have hB1:=hB0.kept hb1;have a1:w1.cell? ⟨w.heap.size,1,none⟩=some (.slice B M d):=hA1.cell 1;have b1:w1.cell? ⟨w.heap.size+1,1,none⟩=some (.slice B' M' d'):=hB1.cell 1;have k1:=((Zag.of k0).call hb1).2.2;clear hA0 hB0 hA1 hB1 k0 hb1
 by_cases hP:Ps=Ps'
 ·rw[YaJ hP];have HP:=hid hP;clear hP;go_wp2_with fail;((with_reducible refine(HC2.out w1 k1).mono ?_);rintro e w2 ⟨rfl,hb2⟩);go_wp2_with fail;go_ret;exact⟨Zap (by rw[YaJ HP.out];rfl),((Zag.of k1).call hb2).2.2⟩
 ·rw[YaI hP];have HP:=hid hP;clear hP;go_wp2_with fail;go_ret;exact⟨Zap (by rw[YaI HP.out];rfl),k1⟩
def Zx0(w:World)(A:Option Addr)(n c:Nat)(en:Ending)(w':World):Prop:=
 ∃Z cZ,en=.returned (.agg #[.slice A n c,.slice Z n cZ])/\Rd w' 1 Z n (iv (Zas n))/\Bz0 w w'
theorem ZhT(A:Option Addr)(n c:Nat)(w:World)(hn:n<=1000000) :
  Calls prog 72 #[.slice A n c] w (Zx0 w A n c):=by
 obtain⟨i0,hi0,q0,q1,q2⟩:=info_parts ZeQ.info
 go_enter func72,ntmps72
 have HH:∀w0,w.alloc (.cells #[.slice none 0 0,.slice none 0 0] 176)=w0->Below w.heap.size w w0/\Blk w0 w.heap.size 176 #[.slice none 0 0,.slice none 0 0]:=fun w0 hw0=>⟨by rw[<-hw0];exact bA0 _,by rw[<-hw0];exact Blk.new _ _ _⟩
 have HH':=hid HH;clear HH
 go_wp2_with (at_make;obtain⟨w0,hw0⟩:∃w0,w.alloc (.cells #[.slice none 0 0,.slice none 0 0] 176)=w0:=⟨_,rfl⟩;rw[hw0];have KD:=hid (HH'.out w0 hw0).1;have SD:=hid (HH'.out w0 hw0).2;clear hw0;go_must (refine wpList_make_full w0 rfl _ _ _ rfl w0.heap.size 2 i0 (.int .i64 0) 1 (by first|exact ZeQ.slice|exact ZhD.slice) hi0 q0 q1 .i64 .i64 _ _ n rfl rfl rfl rfl (by rw[q2];omega) (by unfold maxLen;omega) (YaF _) ?_);intro w2 hown2 hg2;(have K2:=hid (Below.grown (bR0 w0.heap.size w0) hg2 (YaF _) (by simp)));(have O2:=hid hown2);(have s0:w2.cell? ⟨w.heap.size,0,none⟩=some (.slice none 0 0):=(SD.out.kept K2.out).cell 0);(have s1:w2.cell? ⟨w.heap.size,1,none⟩=some (.slice none 0 0):=(SD.out.kept K2.out).cell 1);(have f0:=(SD.out.kept K2.out).frozen 0);(have f1:=(SD.out.kept K2.out).frozen 1);(have ls:=(SD.out.kept K2.out).lt);clear hown2 hg2)
 have S2:=SD.out.kept K2.out;have hst:=Zbb S2 (.slice A n c) (.slice (some ⟨w0.heap.size,0,none⟩) n n);have hz:=KD.out.size;have o2:=O2.out;rw[ZeS] at o2;refine bodyPost_ret (v:=.agg #[.slice A n c,.slice (some ⟨w0.heap.size,0,none⟩) n n]) (by simp[results,results72,go_sem,s0,s1,ls]) rfl ⟨_,_,rfl,Rd.of_own (o2.kept hst.1 (.inr (Zab o2 S2 (by decide)))),Zai ((Zag.of KD.out).call K2.out).2.2 (YaH hz K2.out.size) hst.1 (YaF _)⟩
theorem ZfG:Sl prog 290 359 (.agg #[.int .i64 0,.int .i64 0,.int .i64 0,.bool false,.bool false,.int .i64 0,.int .i64 0,.int .i64 0,.int .i64 0,.int .i64 0,.int .i64 0,.int .i64 0]) 12 88:=⟨underlying290,by kernel_rfl,rfl,by omega⟩
theorem Zyb{w:World}{g:Nat}{t:TypeId}{a0 a1 a2 a3 a4 a5:Value}(h:Blk w g t #[a0,a1,a2,a3,a4,a5])(b0 b1 b2 b3 b4 b5:Value) :
  ∃W,W=((((((w.setCell ⟨g,0,none⟩ b0).setCell ⟨g,1,none⟩ b1).setCell ⟨g,2,none⟩ b2).setCell ⟨g,3,none⟩ b3).setCell ⟨g,4,none⟩ b4).setCell ⟨g,5,none⟩ b5)/\w.grownBy W (some g)/\Blk W g t #[b0,b1,b2,b3,b4,b5]:=
 ⟨_,rfl,Zak (p:=⟨g,5,none⟩) (Zak (p:=⟨g,4,none⟩) (Zak (p:=⟨g,3,none⟩) (Zak (p:=⟨g,2,none⟩) (Zak (p:=⟨g,1,none⟩) (Zak (p:=⟨g,0,none⟩) (World.grownBy.refl w _) (.inl rfl) b0) (.inl rfl) b1) (.inl rfl) b2) (.inl rfl) b3) (.inl rfl) b4) (.inl rfl) b5,
  by simpa using (((((h.set_ 0 b0).set_ 1 b1).set_ 2 b2).set_ 3 b3).set_ 4 b4).set_ 5 b5⟩
end
section
open Go.RowKit
variable(pc:PlC)(c:Cfg)(A:Option Addr)(n cap:Nat)(P:Int)(x t:Int)(w:World)
theorem Zdh(hp:pc.Ok)(hf:Ztu pc c)(hP:P=pc.P) :
  Calls prog 209 #[ZnN A n cap c P] w (Zal w 355 2 pc.nb (rv pc.bks)):=by
 have HG:Hid (∀W,w.alloc (.cells (ZgY A n cap c P) 172)=W->Below w.heap.size w W/\Blk W w.heap.size 172 (ZgY A n cap c P)):=hid (by
  rintro W rfl;exact⟨bA0 _,Blk.new _ _ _⟩)
 have HB0:=hid (fun W=>ZhH pc.P pc.bu W hp.p1 (by have:=hp.p2;omega) hp.b1 (by have:=hp.b2;omega));have eb:Zbe pc.P pc.bu=pc.bks:=rfl;have en:cnt pc.P pc.bu=pc.nb:=rfl;rw[eb,en,<-hP,<-hf.bu] at HB0;clear eb en hP hf hp
 go_enter func209,ntmps209
 go_wp2_with fail;obtain⟨w0,hw0⟩:∃w0,w.alloc (.cells (ZgY A n cap c P) 172)=w0:=⟨_,rfl⟩;obtain⟨hB,hK⟩:=HG.out _ hw0;rw[hw0];clear hw0 HG;((with_reducible refine(HB0.out _).mono ?_);rintro e w1 ⟨A1,c1,rfl,hown,hb⟩);have HO:=hid (Zal.lift ⟨A1,c1,rfl,hown,hb⟩ hB);clear hB hK hown hb;go_wp2_with fail;go_ret;exact HO.out
theorem Zle(hp:pc.Ok)(hf:Ztu pc c)(hP:P=pc.P)(j:Nat)(lo hi:Int)(hj:pc.bks[j]?=some (lo,hi)) :
  Calls prog 254 #[ZnN A n cap c P,.int .i64 t,.int .i64 j] w fun e w'=>e=.returned (ZkC t j lo hi pc.m pc.ch)/\Bz0 w w':=by
 have HBk:=hid (fun W=>Zdh pc c A n cap P W hp hf hP);have HBL:=hid pc.bks_length;have hjl:j<pc.bks.length:=by
  rcases Nat.lt_or_ge j pc.bks.length with h'|h'
  ·exact h'
  ·rw[YaN h'] at hj;cases hj
 rw[HBL.out] at hjl;have HJ:=hid hj;have hwk:=hf.wk;have hch:=hf.ch;obtain⟨sh,ra,mo,wk,ba,mi,st,bu,ch,wi,ca⟩:=c;simp only at hwk hch;rw[<-hch,<-hwk];have HG:Hid (∀W,(w.alloc (.cells (ZgY A n cap ⟨sh,ra,mo,wk,ba,mi,st,bu,ch,wi,ca⟩ P) 172)).alloc (.cells #[.int .i64 0,.int .i64 0,.int .i64 0,.int .i64 0,.int .i64 0,.int .i64 0] 395)=W->Below w.heap.size w W/\Blk W w.heap.size 172 (ZgY A n cap ⟨sh,ra,mo,wk,ba,mi,st,bu,ch,wi,ca⟩ P)/\Blk W (w.heap.size+1) 395 #[.int .i64 0,.int .i64 0,.int .i64 0,.int .i64 0,.int .i64 0,.int .i64 0]):=hid (by
  rintro W rfl;exact⟨(bA0 _).alloc (by simp) _,(Blk.new _ _ _).alloc _,Blk.new' _ _ (by simp)⟩)
 obtain⟨nb,hnb⟩:∃nb,pc.nb=nb:=⟨_,rfl⟩;rw[hnb] at HBk HBL hjl;clear hp hf hP hj hwk hch hnb
 go_enter func254,ntmps254
 go_wp2_with fail;obtain⟨w0,hw0⟩:∃w0,(w.alloc (.cells (ZgY A n cap ⟨sh,ra,mo,wk,ba,mi,st,bu,ch,wi,ca⟩ P) 172)).alloc (.cells #[.int .i64 0,.int .i64 0,.int .i64 0,.int .i64 0,.int .i64 0,.int .i64 0] 395)=w0:=⟨_,rfl⟩;obtain⟨hB,hK,hJb⟩:=HG.out _ hw0;rw[hw0];clear hw0 HG;obtain⟨pb,hpb⟩:∃pb,w.heap.size=pb:=⟨_,rfl⟩;rw[hpb] at hK hJb ⊢;have HPB:=hid hpb;clear hpb;obtain⟨c0,c1,c2,c3,c4,c5,c6,c7,c8,c9,c10,c11,c12⟩:=cl13 hK;have lc:=hK.lt;have HB:=hid hB;have HJB:=hid hJb;clear hB hK hJb;refine Zad (Zag w0) [0,1,2,4,7,8,9,10,11,12] [3,5,6] [13,14] (by kernel_rfl) (by kernel_rfl) (Zag.start w0) ?_;simp only[YaO,YaP,YaB,YaC];refine Zaa (.int .i64 t) rfl (fun W hW=>?_) ?_
 ·obtain⟨hc,-,-⟩:=hW;go_simp
 go_simp;refine Zaa (.int .i64 j) rfl (fun W hW=>?_) ?_
 ·obtain⟨hc,-,-⟩:=hW;go_simp
 go_simp;refine Zaa (ZnN A n cap ⟨sh,ra,mo,wk,ba,mi,st,bu,ch,wi,ca⟩ P) rfl (fun W hW=>?_) ?_
 ·obtain⟨hc,-,-⟩:=hW;go_simp
 go_simp;refine Zaa (.int .i64 j) rfl (fun W hW=>?_) ?_
 ·obtain⟨hc,-,-⟩:=hW;go_simp
 go_simp;refine Zaa (.pointer (some ⟨pb,0,none⟩)) rfl (fun W hW=>?_) ?_
 ·obtain⟨hc,-,-⟩:=hW;go_simp
 go_simp;refine Zaa (.pointer (some ⟨pb,4,none⟩)) rfl (fun W hW=>?_) ?_
 ·obtain⟨hc,-,-⟩:=hW;go_simp
 go_simp;refine Zaa (.int .i64 wk) rfl (fun W hW=>?_) ?_
 ·obtain⟨hc,-,-⟩:=hW;go_simp
 go_simp;refine Zaa (.pointer (some ⟨pb,0,none⟩)) rfl (fun W hW=>?_) ?_
 ·obtain⟨hc,-,-⟩:=hW;go_simp
 go_simp;refine Zaa (.pointer (some ⟨pb,9,none⟩)) rfl (fun W hW=>?_) ?_
 ·obtain⟨hc,-,-⟩:=hW;go_simp
 go_simp;refine Zaa (.int .i64 ch) rfl (fun W hW=>?_) ?_
 ·obtain⟨hc,-,-⟩:=hW;go_simp
 go_simp;change Zah _ _ _ _ _ (_::_::_::[]) _ _;unfold Zah;go_wp2_with fail;((with_reducible refine(HBk.out _).mono ?_);rintro e w2 ⟨Ab,cb,rfl,hown,hb⟩);have hb':Below w0.heap.size w0 w2:=((Zag.start w0).call hb).2.2;have HK2:=hid (Zag.of hb');have HJ2:=hid (HJB.out.kept hb');have HB2:=hid (bT0 HB.out hb');obtain⟨g,o,x',y',rfl,hg,hxy,d0,d1⟩:=Zdr HBL.out (Rd.of_own hown) hjl;rw[HJ.out] at hxy;injection hxy with hxy
 injection hxy with f1 f2
 subst f1 f2;have i1:(0:Int)<=(j:Int):=by omega
 have i2:(j:Int)<(nb:Int):=by omega
 clear hown hb hb' c0 c1 c2 c3 c4 c5 c6 c7 c8 c9 c10 c11 c12 lc;go_wp2_with fail;refine⟨HK2.out,?_⟩;unfold Zah;go_wp2_with fail;refine⟨HK2.out,?_⟩;unfold Zah;go_wp2_with fail;refine⟨HK2.out,?_⟩;unfold Zah;change wpList _ _ _ (_::_::[]) _ _;have q0:w2.cell? ⟨pb+1,0,none⟩=some (.int .i64 0):=HJ2.out.cell 0;have q1:w2.cell? ⟨pb+1,1,none⟩=some (.int .i64 0):=HJ2.out.cell 1;have q2:w2.cell? ⟨pb+1,2,none⟩=some (.int .i64 0):=HJ2.out.cell 2;have q3:w2.cell? ⟨pb+1,3,none⟩=some (.int .i64 0):=HJ2.out.cell 3;have q4:w2.cell? ⟨pb+1,4,none⟩=some (.int .i64 0):=HJ2.out.cell 4;have q5:w2.cell? ⟨pb+1,5,none⟩=some (.int .i64 0):=HJ2.out.cell 5;have z0:=HJ2.out.frozen 0;have z1:=HJ2.out.frozen 1;have z2:=HJ2.out.frozen 2;have z3:=HJ2.out.frozen 3;have z4:=HJ2.out.frozen 4;have z5:=HJ2.out.frozen 5;have lj:=HJ2.out.lt;go_wp2_with fail;refine NoPanic.normal ?_;go_wp2_with fail;obtain⟨W,hW,hgr,hBk⟩:=Zyb HJ2.out (.int .i64 t) (.int .i64 j) (.int .i64 lo) (.int .i64 hi) (.int .i64 wk) (.int .i64 ch);rw[<-hW];have p0:W.cell? ⟨pb+1,0,none⟩=some (.int .i64 t):=hBk.cell 0;have p1:W.cell? ⟨pb+1,1,none⟩=some (.int .i64 j):=hBk.cell 1;have p2:W.cell? ⟨pb+1,2,none⟩=some (.int .i64 lo):=hBk.cell 2;have p3:W.cell? ⟨pb+1,3,none⟩=some (.int .i64 hi):=hBk.cell 3;have p4:W.cell? ⟨pb+1,4,none⟩=some (.int .i64 wk):=hBk.cell 4;have p5:W.cell? ⟨pb+1,5,none⟩=some (.int .i64 ch):=hBk.cell 5;have lp:=hBk.lt;refine bodyPost_ret (v:=.agg #[.int .i64 t,.int .i64 j,.int .i64 lo,.int .i64 hi,.int .i64 wk,.int .i64 ch]) (by simp[results,results254,go_sem,p0,p1,p2,p3,p4,p5,lp]) rfl ⟨rfl,Zai HB2.out HB2.out.size hgr (by rw[HPB.out];exact Nat.le_succ _)⟩
end
section
open Go.RowKit
def RSt(base:Nat)(L:List ZaB)(v:Value)(w:World):Prop:=∃A0 c0 n,L.length=n/\v=.slice A0 n c0/\w.ownsRow base 359 12 (.slice A0 n c0) n (ZaJ L)
abbrev KJ(base:Nat)(w w':World):Prop:=ZcA 359 359 w w'/\Below base w w'
theorem KJ.call{base:Nat}{w w':World}(h:Below w.heap.size w w')(hb:base<=w.heap.size):KJ base w w':=⟨ZcA.of_below h,h.mono hb⟩
theorem RSt.call{base:Nat}{L:List ZaB}{v:Value}{w w':World}(h:RSt base L v w)(hb:Below w.heap.size w w'):RSt base L v w':=by
 obtain⟨A0,c0,n,h0,h1,h2⟩:=h;exact⟨A0,c0,n,h0,h1,Zac h2 hb⟩
theorem KJ.refl(base:Nat)(w:World):KJ base w w:=⟨ZcA.refl _ _ _,bR0 _ _⟩
theorem KJ.trans{base:Nat}{a b c:World}(h:KJ base a b)(k:KJ base b c):KJ base a c:=⟨h.1.trans k.1,h.2.trans k.2⟩
theorem KJ.blk{base g:Nat}{w w':World}{e:TypeId}{cs:Array Value}(h:KJ base w w')(hb:Blk w g e cs)(h1:e≠359):Blk w' g e cs:=h.1 g e cs h1 h1 hb
theorem RSt.push{base n:Nat}{L:List ZaB}{A0 A':Option Addr}{c0 c':Nat}{w w':World}(y:ZaB)(hn:L.length=n)(hown:w.ownsRow base 359 12 (.slice A0 n c0) n (ZaJ L))
  (h:w'.ownsRow base 359 12 (.slice A' (n+1) c') (n+1) (ZaJ L++(Zf7 y).toArray.toList)) (hb:Below base w w') (hg:w.grownBy w' (Value.slice A0 n c0).ownBlock) :
  RSt base (L++[y]) (.slice A' (n+1) c') w'/\KJ base w w':=by
 refine⟨⟨A',c',n+1,by rw[YaS,hn];rfl,rfl,?_⟩,ZcA.of_own' hown hg,hb⟩;rw[ZeK,Zif];exact h
theorem Zd0(k t j:Int):∀u∈(#[.int .i64 k,.int .i64 t,.int .i64 j,.bool false,.bool false,.int .i64 0,.int .i64 0,.int .i64 0,.int .i64 0,.int .i64 0,.int .i64 0,.int .i64 0]:Array Value).toList,u.oneCell'=true:=Zep ((k,t,j),Zve)
theorem RSt.pushP{base n:Nat}{L:List ZaB}{A0 A':Option Addr}{c0 c':Nat}{w w':World}(k t j:Int)(hn:L.length=n)(hown:w.ownsRow base 359 12 (.slice A0 n c0) n (ZaJ L))
  (h:w'.ownsRow base 359 12 (.slice A' (n+1) c') (n+1) (ZaJ L++(#[.int .i64 k,.int .i64 t,.int .i64 j,.bool false,.bool false,.int .i64 0,.int .i64 0,.int .i64 0,.int .i64 0,.int .i64 0,.int .i64 0,.int .i64 0]:Array Value).toList)) (hb:Below base w w') (hg:w.grownBy w' (Value.slice A0 n c0).ownBlock) :
  RSt base (L++[Zb6 k t j]) (.slice A' (n+1) c') w'/\KJ base w w':=RSt.push (Zb6 k t j) hn hown h hb hg
theorem Zn0(kd t:Int)(sd ad:Bool)(s b p r i x y:Int):∀u∈(#[.int .i64 kd,.int .i64 t,.int .i64 0,.bool sd,.bool ad,.int .i64 s,.int .i64 b,.int .i64 p,.int .i64 r,.int .i64 i,.int .i64 x,.int .i64 y]:Array Value).toList,u.oneCell'=true:=Zep ((kd,t,0),((sd,ad),(s,b,p,r,i),(x,y)))
theorem RSt.pushA{base n:Nat}{L:List ZaB}{A0 A':Option Addr}{c0 c':Nat}{w w':World}(kd t:Int)(sd ad:Bool)(s b p r i x y:Int)(hn:L.length=n)(hown:w.ownsRow base 359 12 (.slice A0 n c0) n (ZaJ L))
  (h:w'.ownsRow base 359 12 (.slice A' (n+1) c') (n+1) (ZaJ L++(#[.int .i64 kd,.int .i64 t,.int .i64 0,.bool sd,.bool ad,.int .i64 s,.int .i64 b,.int .i64 p,.int .i64 r,.int .i64 i,.int .i64 x,.int .i64 y]:Array Value).toList)) (hb:Below base w w') (hg:w.grownBy w' (Value.slice A0 n c0).ownBlock) :
  RSt base (L++[((kd,t,0),((sd,ad),(s,b,p,r,i),(x,y)))]) (.slice A' (n+1) c') w'/\KJ base w w':=RSt.push ((kd,t,0),((sd,ad),(s,b,p,r,i),(x,y))) hn hown h hb hg
end
section
open Go.RowKit
variable(pc:PlC)(c:Cfg)(A:Option Addr)(n cap:Nat)(P:Int)(x t:Int)(lo hi base:Nat)(L:List ZaB)(v:Value)(w:World)
theorem ZhU(hp:pc.Ok)(hf:Ztu pc c)(hP:P=pc.P)(hlo:lo<=hi)(hhi:hi<=pc.nb)(hst:RSt base L v w)(hL:L.length<=200000000)(hbase:base<=w.heap.size) :
  Calls prog 210 #[v,ZnN A n cap c P,.int .i64 x,.int .i64 t,.agg #[.int .i64 lo,.int .i64 hi]] w fun e w'=>∃v',e=.returned v'/\RSt base (L++pc.groupI x t lo (hi-lo)) v' w'/\KJ base w w':=by
 have HJob:=hid (fun j a b W (h:pc.bks[j]?=some (a,b))=>Zle pc c A n cap P t W hp hf hP j a b h);obtain⟨hwk,hch,hmi,hwi,hbu,hs0,hs1⟩:=hf;obtain⟨sh,ra,mo,wk,ba,mi,st,bu,ch,wi,ca⟩:=c;simp only at hwk hch hmi hwi hbu hs0 hs1;subst hwk;obtain⟨m,hm⟩:∃m,pc.m=m:=⟨_,rfl⟩;obtain⟨chp,hchp⟩:∃ch,pc.ch=ch:=⟨_,rfl⟩;obtain⟨M,hM⟩:∃M,m-1=M:=⟨_,rfl⟩;have hm1:=hp.m1;have hm2:=hp.m2;have hc2:=hp.c2;have hp2:=hp.p2;have hnb2:=PlC.nb_le hp;have HGI:Hid (pc.groupI x t lo (hi-lo)=ZaF 2 t lo (hi-lo)++pc.rndI x t lo (hi-lo) (2*M)++ZaF 5 t lo (hi-lo)):=hid (by rw[<-hM,<-hm];rfl);have HRS:Hid (∀q:Nat,pc.rndI x t lo (hi-lo) (q+1)=pc.rndI x t lo (hi-lo) q++pc.jobsI x t lo (hi-lo) ((q/M:Nat):Int) ((q%M:Nat):Int)):=hid (fun q=>by rw[<-hM,<-hm];exact pc.rndI_succ x t lo (hi-lo) q);have HJA:Hid (∀(j:Nat) (p r a b:Int),pc.bks[j]?=some (a,b)->pc.jobI x t j p r=(rY t j a b m chp x p r).map (ZhJ t)):=hid (fun j p r a b h=>by rw[ZqW h,hm,hchp]);have HJL:Hid (∀(k:Nat) (p r:Int),(pc.jobsI x t lo k p r).length<=k*2000):=hid (fun k p r=>pc.jobsI_le hp x t lo k p r);have HRL:Hid (∀q:Nat,(pc.rndI x t lo (hi-lo) q).length<=q*((hi-lo)*2000)):=hid (fun q=>pc.rndI_le hp x t lo (hi-lo) q);have HBI:Hid (∀(j:Nat) (a b:Int),pc.bks[j]?=some (a,b)->0<=a/\a<=b/\b<=60):=hid (fun j a b h=>by have:=PlC.bks_in h;simp only at this;omega);have HAT:Hid (∀j,j<pc.nb->∃a b,pc.bks[j]?=some (a,b)):=hid (fun j h=>⟨_,_,YaA (by rw[pc.bks_length];exact h)⟩);have HNB:=hid hhi;have h60:hi<=60:=by omega
 rw[hm] at hm1 hm2 HJob;rw[hchp] at hc2 HJob;rw[hm];have hMm:(m:Int)-1=(M:Int):=by omega
 have zm:IntKind.i64.wrap ((m:Int)-1)=(M:Int):=by rw[hMm];exact Zc2 _ (by omega) (by omega)
 have hM7:M<=7:=by omega
 obtain⟨w0,hw0⟩:∃w0,(w.alloc (.cells (ZgY A n cap ⟨sh,ra,mo,m,ba,mi,st,bu,ch,wi,ca⟩ P) 172)).alloc (.cells #[.int .i64 lo,.int .i64 hi] 355)=w0:=⟨_,rfl⟩;have hB0:Below w.heap.size w w0:=by rw[<-hw0];exact(bA0 _).alloc (by simp) _
 have hS0:Blk w0 w.heap.size 172 (ZgY A n cap ⟨sh,ra,mo,m,ba,mi,st,bu,ch,wi,ca⟩ P):=by rw[<-hw0];exact(Blk.new _ _ _).alloc _
 have hG0:Blk w0 (w.heap.size+1) 355 #[.int .i64 lo,.int .i64 hi]:=by rw[<-hw0];exact Blk.new' _ _ (by simp)
 have HW0:=hid hw0;have HST0:=hid (hst.call hB0);have HB0:=hid hB0;have hz0:base<=w0.heap.size:=YaH hbase hB0.size;obtain⟨A0,c0,n0,-,hv,-⟩:=hst;subst hv;have HMM:=hid hM;clear hm hchp hp hp2 hM hMm hhi hnb2 hbu hwi hmi hch hs0 hs1 hw0 hB0 hP
 go_enter func210,ntmps210
 go_wp2_with fail;rw[HW0.out];obtain⟨pb,hpb⟩:∃pb,w.heap.size=pb:=⟨_,rfl⟩;rw[hpb] at hS0 hG0 ⊢;have HS0:=hid hS0;have HG0:=hid hG0;have g0:w0.cell? ⟨pb+1,0,none⟩=some (.int .i64 lo):=hG0.cell 0;have lg:=hG0.lt;clear hS0 hG0 hpb HW0;go_wp2_with fail;clear g0 lg
 go_loopw [0,11] (fun v u wr=>∃j:Nat,lo<=j/\j<=hi/\u=.int .i64 j/\RSt base (L++ZaF 2 t lo (j-lo)) v wr/\KJ base w0 wr) (fun _ u _=>hi-(intOf u).toNat)
 case atStart=>exact⟨lo,by omega,hlo,rfl,by rw[Nat.sub_self];simpa [ZaF] using HST0.out,KJ.refl _ _⟩
 case round=>
  obtain⟨j,hj1,hj2,rfl,hst,hk⟩:=hrel;have HGb:=hid (hk.blk HG0.out (by decide));have g1:wr.cell? ⟨pb+1,1,none⟩=some (.int .i64 hi):=HGb.out.cell 1;have lg:=HGb.out.lt;obtain⟨A1,c1,n1,hn1,rfl,hown⟩:=hst;have HN1:=hid hn1;have hn1l:n1<=200000060:=by rw[<-hn1,YaS,Zar];omega
  have HOW:=hid hown;have HK:=hid hk;have hzr:base<=wr.heap.size:=YaH hz0 hk.2.size
  by_cases hjlt:j<hi
  ·skip
   have i1:(j:Int)<(hi:Int):=by omega
   clear hown hk hn1
   go_wp2_with (at_builtin;go_must (refine Zaj ZfG rfl _ _ rfl base (.slice A1 n1 c1) n1 (ZaJ (L++ZaF 2 t lo (j-lo))) rfl HOW.out #[.int .i64 2,.int .i64 t,.int .i64 j,.bool false,.bool false,.int .i64 0,.int .i64 0,.int .i64 0,.int .i64 0,.int .i64 0,.int .i64 0,.int .i64 0] wr.heap.size rfl rfl rfl (Zd0 2 t j) (by unfold maxLen;omega) (by omega) hzr ?_);intro A2 c2 w2 hown2 hb2 hg2 _)
   obtain⟨hst2,hk2⟩:=RSt.pushP 2 t j HN1.out HOW.out hown2 hb2 hg2;have HST2:=hid hst2;have HK2:=hid (HK.out.trans hk2);clear hown2 hb2 hg2 hst2 hk2;go_wp2_with fail
   go_roundw
   case rel=>exact⟨j+1,by omega,by omega,by go_num,by rw[show j+1-lo=(j-lo)+1 by omega,ZbV,show lo+(j-lo)=j by omega,<-YaY];exact HST2.out,HK2.out⟩
   case measure=>simp[intOf];omega
  ·obtain rfl:j=hi:=by omega
   obtain⟨L1,hL1⟩:∃L1,L++ZaF 2 t lo (j-lo)=L1:=⟨_,rfl⟩;rw[hL1] at HOW HN1;have HL1:=hid hL1;have HST1:Hid (RSt base L1 (.slice A1 n1 c1) wr):=hid ⟨A1,c1,n1,HN1.out,rfl,HOW.out⟩;clear hL1 hown hk hn1;go_wp2_with fail;clear g1 lg HGb;obtain⟨w1,hw1⟩:∃w1:World,w1=wr:=⟨_,rfl⟩;subst hw1;have hL1l:L1.length<=200000060:=by rw[HN1.out];omega
   go_loopw [0,12] (fun v u wr=>∃q:Nat,q<=2/\u=.int .i64 q/\RSt base (L1++pc.rndI x t lo (j-lo) (q*M)) v wr/\KJ base w0 wr) (fun _ u _=>2-(intOf u).toNat)
   case atStart=>exact⟨0,by omega,rfl,by rw[Nat.zero_mul];simpa [PlC.rndI] using HST1.out,HK.out⟩
   case round=>
    obtain⟨q,hq,rfl,hst,hk⟩:=hrel;obtain⟨A2,c2,n2,hn2,rfl,hown⟩:=hst;have HN2:=hid hn2;have HOW2:=hid hown;have HK2:=hid hk;have HST2:Hid (RSt base (L1++pc.rndI x t lo (j-lo) (q*M)) (.slice A2 n2 c2) wr):=hid ⟨A2,c2,n2,hn2,rfl,hown⟩;have hzr2:base<=wr.heap.size:=YaH hz0 hk.2.size;clear hn2 hown hk
    by_cases hq2:q<2
    ·have dq:decide ((q:Int)<2)=true:=YaJ (by omega);go_wp2_with fail;obtain⟨w2,hw2⟩:∃w2:World,w2=wr:=⟨_,rfl⟩;subst hw2
     go_loopw [0,13] (fun v u wr=>∃r:Nat,r<=M/\u=.int .i64 r/\RSt base (L1++pc.rndI x t lo (j-lo) (q*M+r)) v wr/\KJ base w0 wr) (fun _ u _=>M-(intOf u).toNat)
     case atStart=>exact⟨0,by omega,rfl,HST2.out,HK2.out⟩
     case round=>
      obtain⟨r,hr,rfl,hst,hk⟩:=hrel;obtain⟨A3,c3,n3,hn3,rfl,hown⟩:=hst;have HS3:=hid (hk.blk HS0.out (by decide));have HG3:=hid (hk.blk HG0.out (by decide));have s4:wr.cell? ⟨pb,4,none⟩=some (.int .i64 m):=HS3.out.cell 4;have ls:=HS3.out.lt;have g0:wr.cell? ⟨pb+1,0,none⟩=some (.int .i64 lo):=HG3.out.cell 0;have lg:=HG3.out.lt;have HK3:=hid hk;have HST3:Hid (RSt base (L1++pc.rndI x t lo (j-lo) (q*M+r)) (.slice A3 n3 c3) wr):=hid ⟨A3,c3,n3,hn3,rfl,hown⟩;have hzr3:base<=wr.heap.size:=YaH hz0 hk.2.size;clear hn3 hown hk
      by_cases hrM:r<M
      ·have dr:decide ((r:Int)<(M:Int))=true:=YaJ (by omega);have hqm:q*M+r<=14:=by have:q*M<=1*M:=YaW M (by omega);omega
       have hqml:(q*M+r)*((j-lo)*2000)<=14*120000:=Nat.mul_le_mul hqm (by omega);have HSu:=HRS.out (q*M+r);have e1:(q*M+r)/M=q:=by rw[Nat.mul_comm,Nat.mul_add_div (by omega),Nat.div_eq_of_lt hrM,Nat.add_zero]
       have e2:(q*M+r)%M=r:=by rw[Nat.mul_comm,Nat.mul_add_mod,Nat.mod_eq_of_lt hrM]
       rw[e1,e2] at HSu;have hrl:=HRL.out (q*M+r);obtain⟨L3,hL3⟩:∃L3,L1++pc.rndI x t lo (j-lo) (q*M+r)=L3:=⟨_,rfl⟩;have hL3l:L3.length<=202000000:=by rw[<-hL3,YaS];omega
       rw[hL3] at HST3;have HL3:=hid hL3
       replace HSu:=hid HSu
       have HJ0:Hid (pc.jobsI x t lo 0 (q:Int) (r:Int)=[]):=hid rfl;clear e1 e2 hL3 hrl hqml;go_wp2_with fail;clear g0 lg s4 ls;obtain⟨w3,hw3⟩:∃w3:World,w3=wr:=⟨_,rfl⟩;subst hw3
       go_loopw [0,14] (fun v u wr=>∃i:Nat,lo<=i/\i<=j/\u=.int .i64 i/\RSt base (L3++pc.jobsI x t lo (i-lo) (q:Int) (r:Int)) v wr/\KJ base w0 wr) (fun _ u _=>j-(intOf u).toNat)
       case atStart=>exact⟨lo,by omega,hlo,rfl,by rw[Nat.sub_self,HJ0.out,List.append_nil];exact HST3.out,HK3.out⟩
       case round=>
        obtain⟨i,hi1,hi2,rfl,hst,hk⟩:=hrel;obtain⟨A4,c4,n4,hn4,rfl,hown⟩:=hst;have HS4:=hid (hk.blk HS0.out (by decide));have HG4:=hid (hk.blk HG0.out (by decide));have g1:wr.cell? ⟨pb+1,1,none⟩=some (.int .i64 j):=HG4.out.cell 1;have lg:=HG4.out.lt;have HK4:=hid hk;have HST4:Hid (RSt base (L3++pc.jobsI x t lo (i-lo) (q:Int) (r:Int)) (.slice A4 n4 c4) wr):=hid ⟨A4,c4,n4,hn4,rfl,hown⟩;have hzr4:base<=wr.heap.size:=YaH hz0 hk.2.size;have HN4:=hid hn4;clear hown hk
        by_cases hij:i<j
        ·have di:decide ((i:Int)<(j:Int))=true:=YaJ (by omega);obtain⟨a,b,hab⟩:=HAT.out i (by have:=HNB.out;omega);obtain⟨ha0,hab1,hb60⟩:=HBI.out i a b hab;have HJb:=hid (fun W=>HJob.out i a b W hab);have HJAj:=HJA.out i (q:Int) (r:Int) a b hab;have HRj:=fun W=>Zjk t i a b m chp x q r W ha0 hab1 (by omega) (by omega) (by omega) (by omega)
         have hle:=Zvd t i a b m chp x q r ha0 hab1 (by omega) (by omega);obtain⟨R,hR⟩:∃R,rY t i a b m chp x q r=R:=⟨_,rfl⟩;rw[hR] at HRj hle HJAj;obtain⟨nr,hnr⟩:∃nr,R.length=nr:=⟨_,rfl⟩;rw[hnr] at HRj hle;have HNR:=hid hnr;have hjl:=HJL.out (i-lo) (q:Int) (r:Int);have HJS:Hid (pc.jobsI x t lo (i+1-lo) (q:Int) (r:Int)=pc.jobsI x t lo (i-lo) (q:Int) (r:Int)++R.map (ZhJ t)):=hid (by
          rw[show i+1-lo=(i-lo)+1 by omega,pc.jobsI_succ,show lo+(i-lo)=i by omega,HJAj])
         obtain⟨L4,hL4⟩:∃L4,L3++pc.jobsI x t lo (i-lo) (q:Int) (r:Int)=L4:=⟨_,rfl⟩;have hL4l:L4.length<=203000000:=by rw[<-hL4,YaS];omega
         rw[hL4] at HST4 HN4;have HL4:=hid hL4;have HRJ:=hid HRj;obtain⟨s0,s1,s2,s3,s4,s5,s6,s7,s8,s9,s10,s11,s12⟩:=cl13 HS4.out;have ls:=HS4.out.lt;clear hab hR hnr hjl hL4 HRj HJAj hn4;go_wp2_with fail;((with_reducible refine(HJb.out _).mono ?_);rintro e w4 ⟨rfl,hb4⟩);have HB4:=hid hb4;clear s0 s1 s2 s3 s4 s5 s6 s7 s8 s9 s10 s11 s12 ls g1 lg hb4;go_wp2_with fail;((with_reducible refine(HRJ.out _).mono ?_);rintro e w5 ⟨A5,c5,rfl,hown5,hb5⟩);have HR5:=hid hown5;have hb45:Below wr.heap.size wr w5:=bT0 HB4.out hb5;have HST5:=hid (HST4.out.call hb45);have HK5:=hid (HK4.out.trans (KJ.call hb45 hzr4));have hz5:base<=w5.heap.size:=YaH hzr4 hb45.size;clear hown5 hb5 hb45;go_wp2_with fail;obtain⟨wz,hwz⟩:∃wz:World,wz=wr:=⟨_,rfl⟩;clear HB4
         go_loopw [0,16] (fun v z wr=>∃u:Nat,u<=nr/\z=.int .i64 u/\RSt base (L4++(R.take u).map (ZhJ t)) v wr/\KJ base w5 wr) (fun _ z _=>nr-(intOf z).toNat)
         case atStart=>exact⟨0,by omega,rfl,by simpa using HST5.out,KJ.refl _ _⟩
         case round=>
          obtain⟨u,hu,rfl,hst6,hk6⟩:=hrel;obtain⟨A6,c6,n6,hn6,rfl,hown6⟩:=hst6;have HN6:=hid hn6;have HOW6:=hid hown6;have HK6:=hid hk6;have hzr6:base<=wr.heap.size:=YaH hz5 hk6.2.size;have hn6l:n6<=204000000:=by
           rw[<-hn6,YaS,List.length_map,List.length_take];omega
          by_cases hult:u<nr
          ·obtain⟨g2,o2,sd,ad,s,bk,p,r2,e,xx,yy,rfl,hg2,hR2,a0,a1,a2,a3,a4,a5,a6,a7,a8⟩:=Zkh HNR.out (Rd.of_own (hk6.1.own hk6.2.size HR5.out (by decide) (by decide))) hult;have i5:(u:Int)<(nr:Int):=by omega
           have i6:(0:Int)<=(u:Int):=by omega
           have HTK:Hid ((R.take (u+1)).map (ZhJ t)=(R.take u).map (ZhJ t)++[ZhJ t ((sd,ad),(s,bk,p,r2,e),(xx,yy))]):=hid (by
            have hlt':u<R.length:=by rw[HNR.out];exact hult
            rw[Zbf _ _ hlt',List.map_append];rw[YaA hlt'] at hR2;injection hR2 with hR2
            rw[hR2];rfl)
           clear hn6 hown6 hk6 hR2
           cases sd
           ·skip
            go_wp2_with (at_builtin;go_must (refine Zaj ZfG rfl _ _ rfl base (.slice A6 n6 c6) n6 (ZaJ (L4++(R.take u).map (ZhJ t))) rfl HOW6.out #[.int .i64 4,.int .i64 t,.int .i64 0,.bool false,.bool ad,.int .i64 s,.int .i64 bk,.int .i64 p,.int .i64 r2,.int .i64 e,.int .i64 xx,.int .i64 yy] wr.heap.size rfl rfl rfl (Zn0 4 t false ad s bk p r2 e xx yy) (by unfold maxLen;omega) (by omega) hzr6 ?_);intro A7 c7 w7 hown7 hb7 hg7 _)
            obtain⟨hst7,hk7⟩:=RSt.pushA 4 t false ad s bk p r2 e xx yy HN6.out HOW6.out hown7 hb7 hg7;have HST7:=hid hst7;have HK7:=hid (HK6.out.trans hk7);clear hown7 hb7 hg7 hst7 hk7;go_wp2_with fail
            go_roundw
            case rel=>exact⟨u+1,by omega,by go_num,by rw[HTK.out,<-YaY];exact HST7.out,HK7.out⟩
            case measure=>simp[intOf];omega
           ·skip
            go_wp2_with (at_builtin;go_must (refine Zaj ZfG rfl _ _ rfl base (.slice A6 n6 c6) n6 (ZaJ (L4++(R.take u).map (ZhJ t))) rfl HOW6.out #[.int .i64 3,.int .i64 t,.int .i64 0,.bool true,.bool ad,.int .i64 s,.int .i64 bk,.int .i64 p,.int .i64 r2,.int .i64 e,.int .i64 xx,.int .i64 yy] wr.heap.size rfl rfl rfl (Zn0 3 t true ad s bk p r2 e xx yy) (by unfold maxLen;omega) (by omega) hzr6 ?_);intro A7 c7 w7 hown7 hb7 hg7 _)
            obtain⟨hst7,hk7⟩:=RSt.pushA 3 t true ad s bk p r2 e xx yy HN6.out HOW6.out hown7 hb7 hg7;have HST7:=hid hst7;have HK7:=hid (HK6.out.trans hk7);clear hown7 hb7 hg7 hst7 hk7;go_wp2_with fail
            go_roundw
            case rel=>exact⟨u+1,by omega,by go_num,by rw[HTK.out,<-YaY];exact HST7.out,HK7.out⟩
            case measure=>simp[intOf];omega
          ·obtain rfl:u=nr:=by omega
           have HTA:Hid (R.take u=R):=hid (YaX (by rw[HNR.out];omega));have HST6:Hid (RSt base (L4++(R.take u).map (ZhJ t)) (.slice A6 n6 c6) wr):=hid ⟨A6,c6,n6,hn6,rfl,hown6⟩;clear hn6 hown6 hk6;go_wp2_with fail
           go_roundw
           case rel=>exact⟨i+1,by omega,by omega,by go_num,by rw[HJS.out,<-YaY,HL4.out,<-HTA.out];exact HST6.out,HK5.out.trans HK6.out⟩
           case measure=>simp[intOf];omega
        ·obtain rfl:i=j:=by omega
         have di:decide ((i:Int)<(i:Int))=false:=YaI (by omega);clear hn4;go_wp2_with fail
         go_roundw
         case rel=>exact⟨r+1,by omega,by go_num,by rw[<-Nat.add_assoc,HSu.out,<-YaY,HL3.out];exact HST4.out,HK4.out⟩
         case measure=>simp[intOf];omega
      ·obtain rfl:r=M:=by omega
       have dr:decide ((r:Int)<(r:Int))=false:=YaI (by omega);clear g0 lg;go_wp2_with fail
       go_roundw
       case rel=>exact⟨q+1,by omega,by go_num,by rw[Nat.add_mul,Nat.one_mul];exact HST3.out,HK3.out⟩
       case measure=>simp[intOf];omega
    ·obtain rfl:q=2:=by omega
     have HG2:=hid (HK2.out.blk HG0.out (by decide));have g0:wr.cell? ⟨pb+1,0,none⟩=some (.int .i64 lo):=HG2.out.cell 0;have lg:=HG2.out.lt;go_wp2_with fail;clear g0 lg;obtain⟨w2,hw2⟩:∃w2:World,w2=wr:=⟨_,rfl⟩;subst hw2;have hrl:=HRL.out (2*M);have hrl2:2*M*((j-lo)*2000)<=14*120000:=Nat.mul_le_mul (by omega) (by omega);obtain⟨L3,hL3⟩:∃L3,L1++pc.rndI x t lo (j-lo) (2*M)=L3:=⟨_,rfl⟩;have hL3l:L3.length<=202000000:=by rw[<-hL3,YaS];omega
     rw[hL3] at HST2;have HFI:Hid (L++pc.groupI x t lo (j-lo)=L3++ZaF 5 t lo (j-lo)):=hid (by rw[HGI.out,<-YaY,<-YaY,HL1.out,hL3]);clear hL3 hrl hrl2
     go_loopw [0,18] (fun v u wr=>∃i:Nat,lo<=i/\i<=j/\u=.int .i64 i/\RSt base (L3++ZaF 5 t lo (i-lo)) v wr/\KJ base w0 wr) (fun _ u _=>j-(intOf u).toNat)
     case atStart=>exact⟨lo,by omega,hlo,rfl,by rw[Nat.sub_self];simpa [ZaF] using HST2.out,HK2.out⟩
     case round=>
      obtain⟨i,hi1,hi2,rfl,hst,hk⟩:=hrel;have HGb:=hid (hk.blk HG0.out (by decide));have g1:wr.cell? ⟨pb+1,1,none⟩=some (.int .i64 j):=HGb.out.cell 1;have lg:=HGb.out.lt;obtain⟨A4,c4,n4,hn4,rfl,hown⟩:=hst;have HN4:=hid hn4;have hn4l:n4<=202000060:=by rw[<-hn4,YaS,Zar];omega
      have HOW4:=hid hown;have HK4:=hid hk;have hzr4:base<=wr.heap.size:=YaH hz0 hk.2.size
      by_cases hij:i<j
      ·have i1:(i:Int)<(j:Int):=by omega
       clear hown hk hn4
       go_wp2_with (at_builtin;go_must (refine Zaj ZfG rfl _ _ rfl base (.slice A4 n4 c4) n4 (ZaJ (L3++ZaF 5 t lo (i-lo))) rfl HOW4.out #[.int .i64 5,.int .i64 t,.int .i64 i,.bool false,.bool false,.int .i64 0,.int .i64 0,.int .i64 0,.int .i64 0,.int .i64 0,.int .i64 0,.int .i64 0] wr.heap.size rfl rfl rfl (Zd0 5 t i) (by unfold maxLen;omega) (by omega) hzr4 ?_);intro A5 c5 w5 hown5 hb5 hg5 _)
       obtain⟨hst5,hk5⟩:=RSt.pushP 5 t i HN4.out HOW4.out hown5 hb5 hg5;have HST5:=hid hst5;have HK5:=hid (HK4.out.trans hk5);clear hown5 hb5 hg5 hst5 hk5;go_wp2_with fail
       go_roundw
       case rel=>exact⟨i+1,by omega,by omega,by go_num,by rw[show i+1-lo=(i-lo)+1 by omega,ZbV,show lo+(i-lo)=i by omega,<-YaY];exact HST5.out,HK5.out⟩
       case measure=>simp[intOf];omega
      ·obtain rfl:i=j:=by omega
       have HST5:Hid (RSt base (L3++ZaF 5 t lo (i-lo)) (.slice A4 n4 c4) wr):=hid ⟨A4,c4,n4,hn4,rfl,hown⟩;clear hown hk hn4;go_wp2_with fail;go_ret;exact⟨_,rfl,by rw[HFI.out];exact HST5.out,(KJ.call HB0.out hbase).trans HK4.out⟩
end
