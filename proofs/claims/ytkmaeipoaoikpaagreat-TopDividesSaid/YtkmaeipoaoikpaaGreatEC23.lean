/- Lemmas. -/
import Derived.Test.YtkmaeipoaoikpaaGreatEC22
namespace Go.Proofs.YtkmaeipoaoikpaaGreat
set_option linter.all false
set_option maxRecDepth 100000
set_option maxHeartbeats 4000000
open Lib (hid)
open Go.RowKit
open Tryz
def eeL(l:List (Int×Int))(e:Int)(b:Nat):Int:=match l[b]? with
 |some y=>y.1
 |none=>e
theorem ZrR{l:List (Int×Int)}{a e:Int}(h:Zbn l a e):eeL l e 0=a:=by
 cases l with
 |nil=>unfold Zbn at h;exact h.symm
 |cons c l=>unfold Zbn at h;exact h.1
theorem Zm1:∀{l:List (Int×Int)} {a e:Int},Zbn l a e->∀(b:Nat) (y:Int×Int),l[b]?=some y->eeL l e b=y.1/\eeL l e (b+1)=y.2/\a<=y.1/\y.1<=y.2/\y.2<=e
 |[],a,e,h,b,y,hy=>by simp at hy
 |c::l,a,e,h,0,y,hy=>by
  have hh:=h;unfold Zbn at hh;obtain⟨h1,h2,h3⟩:=hh;have hy:c=y:=by simpa using hy
  subst hy;have h4:=(Zfg h3).1;exact⟨rfl,ZrR h3,by omega,by omega,h4⟩
 |c::l,a,e,h,b+1,y,hy=>by
  have hh:=h;unfold Zbn at hh;obtain⟨h1,h2,h3⟩:=hh;obtain⟨g1,g2,g3,g4,g5⟩:=Zm1 h3 b y (by simpa using hy);refine⟨?_,?_,by omega,g4,g5⟩
  ·rw[<-g1];rfl
  ·rw[<-g2];rfl
theorem Zx1{l:List (Int×Int)}{a e:Int}(h:Zbn l a e)(b:Nat):a<=eeL l e b/\eeL l e b<=e:=by
 cases hb:l[b]? with
 |none=>
  have:eeL l e b=e:=by unfold eeL;rw[hb]
  rw[this];exact⟨(Zfg h).1,Int.le_refl _⟩
 |some y=>
  obtain⟨g1,g2,g3,g4,g5⟩:=Zm1 h b y hb;rw[g1];omega
theorem ZrS(f new:Nat->Int)(a e:Int)(n o k:Nat)(h:o+k<=n)(hd:∀i:Nat,o<=i->i<o+k->¬(a<=(i:Int)/\(i:Int)<e)):pcL (ZhY f new a e n) o k=(List.range k).map fun j=>f (o+j):=by
 unfold pcL
 apply List.ext_getElem?
 intro i;unfold ZhY
 by_cases hi:i<k
 ·rw[List.getElem?_take_of_lt hi,List.getElem?_drop,YaR,YaR,List.getElem?_range (by omega),List.getElem?_range hi];simp only[Option.map_some];rw[if_neg (hd (o+i) (by omega) (by omega))]
 ·rw[YaN (by simp;omega),YaN (by simp;omega)]
theorem ZrT(lo hi:Int)(m q q':Nat)(h:q≠q')(i:Nat)(h1:(Zdf lo hi m q).1<=(i:Int)/\(i:Int)<(Zdf lo hi m q).2):¬((Zdf lo hi m q').1<=(i:Int)/\(i:Int)<(Zdf lo hi m q').2):=by
 unfold Zdf at h1 ⊢;dsimp only at h1 ⊢;intro h2
 rcases Nat.lt_or_gt_of_ne h with h3|h3
 ·have:=ZjM (hi-lo).toNat (m:Int).toNat (q+1) q' h3;omega
 ·have:=ZjM (hi-lo).toNat (m:Int).toNat (q'+1) q h3;omega
theorem Zlk(a m:Int)(hm:2<=m):a%m≠(a-1)%m:=by
 intro h;have h1:=Int.emod_add_mul_ediv a m;have h2:=Int.emod_add_mul_ediv (a-1) m;rw[h] at h1;have h3:m*(a/m-(a-1)/m)=1:=by rw[Int.mul_sub];omega
 have h4:m∣1:=⟨_,h3.symm⟩;have:=Int.le_of_dvd (by decide) h4;omega
theorem Zx2(c:PlC)(hm:2<=c.m)(w k:Nat):c.sq w k≠c.rq w k:=by
 unfold PlC.sq PlC.rq;have h1:=Zlk ((w:Int)-c.rd k+c.ph k) c.m (by omega);have z1:=Int.emod_nonneg ((w:Int)-c.rd k+c.ph k) (b:=(c.m:Int)) (by omega);have z2:=Int.emod_nonneg ((w:Int)-c.rd k+c.ph k-1) (b:=(c.m:Int)) (by omega);omega
section
variable{I:InC}
def Zut(I:InC)(k:Nat)(f:Nat->Nat->Int)(x:Nat):Nat->Int:=fun i=>if (I.mc 0).pc.ph k=0 then wrap64 (f x i+f (I.rg.pv x) i) else f (I.rg.pv x) i
theorem ZrU(t k j b:Nat)(F:Nat->Cr):stp I t (3,k,j,b) F=F:=by
 funext x
 unfold stp;exact if_pos rfl
theorem ZtP(hO:I.Ok){t k j:Nat}{lo hi:Int}(hk:k<2*((I.mc 0).pc.m-1))(hj:(I.mc 0).pc.bks[j]?=some (lo,hi)){F:Nat->Cr}{f:Nat->Nat->Int}(hF:∀x,x<I.rg.n->(F x).G=ZaN (f x) I.P):∀B x,x<I.rg.n ->
  Zgw I t (Zk8 k j B) F x={ F x with G:=ZhY (f x) (Zut I k f x) (Zdf lo hi (I.mc 0).pc.m ((I.mc 0).pc.rq x k)).1 (eeL ((I.mc 0).pc.chk j ((I.mc 0).pc.rq x k)) (Zdf lo hi (I.mc 0).pc.m ((I.mc 0).pc.rq x k)).2 B) I.P }:=by
 have hok:=InC.pc_ok hO;have hch:=InC.pc_ch hO;have hm2:2<=(I.mc 0).pc.m:=by omega
 obtain⟨b0,b1,b2⟩:=PlC.bks_in hj;have hPP:(I.mc 0).pc.P=I.P:=rfl;rw[hPP] at b2;have hchain:∀x,Zbn ((I.mc 0).pc.chk j ((I.mc 0).pc.rq x k)) (Zdf lo hi (I.mc 0).pc.m ((I.mc 0).pc.rq x k)).1 (Zdf lo hi (I.mc 0).pc.m ((I.mc 0).pc.rq x k)).2:=fun x=>by
  have hq:=(PlC.q_lt hok x k).2;obtain⟨a1,a2,a3⟩:=ZcD lo hi (I.mc 0).pc.m ((I.mc 0).pc.rq x k) b1 (by omega);unfold PlC.chk;rw[hj];exact Zf3 _ _ _ a2 hch
 intro B
 induction B with
 |zero=>
  intro x hx
  show F x=_
  rw[ZrR (hchain x),ZrE,<-hF x hx]
 |succ B ih=>
  intro x hx;have hpv:=Rg.pv_lt (Zd7 hok) x;have e1:Zk8 k j (B+1)=Zk8 k j B++[(3,k,j,B),(4,k,j,B)]:=by unfold Zk8;rw[List.range_succ,List.flatMap_append];simp
  have e2:Zgw I t (Zk8 k j (B+1)) F x=stp I t (4,k,j,B) (Zgw I t (Zk8 k j B) F) x:=by
   rw[e1,Zbx]
   show stp I t (4,k,j,B) (stp I t (3,k,j,B) (Zgw I t (Zk8 k j B) F)) x=_
   rw[ZrU]
  rw[e2];unfold stp;rw[if_neg (by show ¬(4:Nat)=3;decide),if_pos rfl];dsimp only
  cases hy:((I.mc 0).pc.chk j ((I.mc 0).pc.rq x k))[B]? with
  |none=>
   dsimp only;rw[ih x hx];have h1:eeL ((I.mc 0).pc.chk j ((I.mc 0).pc.rq x k)) (Zdf lo hi (I.mc 0).pc.m ((I.mc 0).pc.rq x k)).2 B=(Zdf lo hi (I.mc 0).pc.m ((I.mc 0).pc.rq x k)).2:=by unfold eeL;rw[hy]
   have h2:eeL ((I.mc 0).pc.chk j ((I.mc 0).pc.rq x k)) (Zdf lo hi (I.mc 0).pc.m ((I.mc 0).pc.rq x k)).2 (B+1)=(Zdf lo hi (I.mc 0).pc.m ((I.mc 0).pc.rq x k)).2:=by
    unfold eeL;rw[YaN (by have:=List.getElem?_eq_none_iff.1 hy;omega)]
   rw[h1,h2]
  |some y=>
   dsimp only;obtain⟨g1,g2,g3,g4,g5⟩:=Zm1 (hchain x) B y hy;have hq:=PlC.q_lt hok x k;obtain⟨a1,a2,a3⟩:=ZcD lo hi (I.mc 0).pc.m ((I.mc 0).pc.rq x k) b1 (by omega);obtain⟨o,ho⟩:=YaM (show 0<=y.1 by omega);obtain⟨k',hk'⟩:=YaM (show 0<=y.2-y.1 by omega);have hok':o+k'<=I.P:=by omega
   have hto:y.1.toNat=o:=by omega
   have htk:(y.2-y.1).toNat=k':=by omega
   rw[ih x hx,ih _ hpv,g1,g2,hto,htk];dsimp only;have hsq:=ZtC (I.mc 0).pc hok.m1 (I.rg.pv x) k;rw[ZwQ hO hx] at hsq;have hne:(I.mc 0).pc.rq x k≠(I.mc 0).pc.rq (I.rg.pv x) k:=by rw[hsq];exact Zx2 _ hm2 _ _
   rw[ZrS (f (I.rg.pv x)) _ _ _ _ o k' hok' (fun i h1 h2 h3=>ZrT lo hi (I.mc 0).pc.m _ _ hne i ⟨by omega,by omega⟩ ⟨h3.1,by have:=(Zx1 (hchain (I.rg.pv x)) B).2;omega⟩)];rw[ho,show y.2=((o+k':Nat):Int) by omega]
   congr 1
   by_cases hp:(I.mc 0).pc.ph k=0
   ·have hn:∀i,Zut I k f x i=wrap64 (f x i+f (I.rg.pv x) i):=fun i=>by unfold Zut;rw[if_pos hp]
    unfold ZdJ;rw[if_pos (by simpa using hp)];exact ZtJ (f x) (f (I.rg.pv x)) (Zut I k f x) _ I.P o k' (by omega) hok' hn
   ·have hn:Zut I k f x=f (I.rg.pv x):=by funext i;unfold Zut;rw[if_neg hp]
    unfold ZdJ;rw[if_neg (by simpa using hp),hn];exact ZrF (f x) (f (I.rg.pv x)) _ I.P o k' (by omega) hok'
end
theorem Zpl(f f1 new:Nat->Int)(a e:Int)(n:Nat)(h:∀i:Nat,f1 i=if a<=(i:Int)/\(i:Int)<e then new i else f i):ZaN f1 n=ZhY f new a e n:=by
 unfold ZaN ZhY
 apply List.map_congr_left
 intro i _;exact h i
def PlC.jof(c:PlC)(i:Nat):Nat:=c.nb-1-i/c.bu
theorem Zuu{c:PlC}(h:c.Ok){j:Nat}{y:Int×Int}(hy:c.bks[j]?=some y):j<c.nb/\y.1=(((c.nb-1-j)*c.bu:Nat):Int)/\y.2=(((c.nb-1-j)*c.bu+min c.bu (c.P-(c.nb-1-j)*c.bu):Nat):Int):=by
 have hj:j<c.nb:=by rw[<-PlC.bks_length];exact ZbJ hy
 have hl:(Zat c.P c.bu).length=c.nb:=Zan _ _;unfold PlC.bks Zbe at hy;rw[List.getElem?_reverse (by rw[hl];exact hj),hl,YaA (by rw[hl];omega),Zcj] at hy;injection hy with hy
 rw[<-hy];exact⟨hj,rfl,rfl⟩
theorem ZrV{c:PlC}(h:c.Ok){j i:Nat}{y:Int×Int}(hy:c.bks[j]?=some y)(h1:y.1<=(i:Int))(h2:(i:Int)<y.2):c.jof i=j:=by
 obtain⟨hj,e1,e2⟩:=Zuu h hy;have hb:=h.b1;have h3:(c.nb-1-j)*c.bu<=i:=by omega
 have h4:i<(c.nb-1-j+1)*c.bu:=by rw[Nat.add_mul,Nat.one_mul];omega
 have h5:i/c.bu=c.nb-1-j:=by
  apply Nat.le_antisymm
  ·have:=Nat.div_lt_of_lt_mul (m:=i) (n:=c.bu) (k:=c.nb-1-j+1) (by rw[Nat.mul_comm];exact h4);omega
  ·exact(Nat.le_div_iff_mul_le (by omega)).2 h3
 unfold PlC.jof;omega
theorem ZrW{c:PlC}(h:c.Ok){i:Nat}(hi:i<c.P):c.jof i<c.nb/\∃y,c.bks[c.jof i]?=some y/\y.1<=(i:Int)/\(i:Int)<y.2:=by
 have hb:=h.b1;have hn:=PlC.nb_pos h;have hd:i/c.bu<c.nb:=by
  unfold PlC.nb;rw[Zdq _ _ h.p1 h.b1];exact Nat.lt_succ_of_le (Nat.div_le_div_right (by omega))
 have hj:c.jof i<c.nb:=by unfold PlC.jof;generalize i/c.bu=d at hd ⊢;omega
 obtain⟨y,hy⟩:=Zb0 (l:=c.bks) (x:=c.jof i) (by rw[PlC.bks_length];exact hj);obtain⟨_,e1,e2⟩:=Zuu h hy;have e3:c.nb-1-c.jof i=i/c.bu:=by unfold PlC.jof;generalize i/c.bu=d at hd ⊢;omega
 rw[e3] at e1 e2;have h1:=Nat.div_add_mod i c.bu;have h2:=Nat.mod_lt i hb;rw[Nat.mul_comm] at h1;exact⟨hj,y,hy,by omega,by omega⟩
def rvK(I:InC)(z:Nat->Nat->Int)(κ:Nat->Nat)(x i:Nat):Int:=match (I.mc 0).pc.bks[(I.mc 0).pc.jof i]? with
 |some y=>rst y.1 y.2 (I.mc 0).pc.m z (κ ((I.mc 0).pc.jof i)) x i
 |none=>z x i
section
variable{I:InC}
theorem ZwT(hO:I.Ok){x:Nat}(hx:x<I.rg.n):pwN (I.mc 0).pc.m x=I.rg.pv x:=by
 have h1:=Rg.pv_val (Zd7 (InC.pc_ok hO)) hx;have h2:=ZrB (I.mc 0).pc.m x hx;have:I.rg.n=(I.mc 0).pc.m:=rfl;omega
theorem ZvE(k:Nat):(I.mc 0).pc.ph k=0↔k/((I.mc 0).pc.m-1)=0:=by
 unfold PlC.ph;generalize k/((I.mc 0).pc.m-1)=a;omega
theorem ZtQ(hO:I.Ok){t k j:Nat}{z:Nat->Nat->Int}{κ:Nat->Nat}(hk:k<2*((I.mc 0).pc.m-1))(hjn:j<(I.mc 0).pc.nb)(hκ:κ j=k){F:Nat->Cr}(hF:∀x,x<I.rg.n->(F x).G=ZaN (rvK I z κ x) I.P){x:Nat}(hx:x<I.rg.n) :
  Zgw I t (Zk8 k j 60) F x={ F x with G:=ZaN (rvK I z (Rg.upd κ j (k+1)) x) I.P }:=by
 have hok:=InC.pc_ok hO;obtain⟨⟨lo,hi⟩,hj⟩:=Zb0 (l:=(I.mc 0).pc.bks) (x:=j) (by rw[PlC.bks_length];exact hjn);obtain⟨b0,b1,b2⟩:=PlC.bks_in hj;have hq:=(PlC.q_lt hok x k).2;obtain⟨a1,a2,a3⟩:=ZcD lo hi (I.mc 0).pc.m ((I.mc 0).pc.rq x k) b1 (by omega);rw[ZtP hO hk hj (f:=rvK I z κ) hF 60 x hx];have he:eeL ((I.mc 0).pc.chk j ((I.mc 0).pc.rq x k)) (Zdf lo hi (I.mc 0).pc.m ((I.mc 0).pc.rq x k)).2 60=(Zdf lo hi (I.mc 0).pc.m ((I.mc 0).pc.rq x k)).2:=by
  unfold eeL;rw[YaN (Zrs hok j _ hq)]
 rw[he]
 suffices hcur:ZhY (rvK I z κ x) (Zut I k (rvK I z κ) x) (Zdf lo hi (I.mc 0).pc.m ((I.mc 0).pc.rq x k)).1 (Zdf lo hi (I.mc 0).pc.m ((I.mc 0).pc.rq x k)).2 I.P=ZaN (rvK I z (Rg.upd κ j (k+1)) x) I.P by rw[hcur]
 refine(Zpl _ _ _ _ _ _ (fun i=>?_)).symm
 by_cases hji:(I.mc 0).pc.jof i=j
 ·have hv:∀(κ':Nat->Nat) (w:Nat),rvK I z κ' w i=rst lo hi (I.mc 0).pc.m z (κ' j) w i:=fun κ' w=>by
   unfold rvK;rw[hji,hj]
  unfold Zut;simp only[hv];rw[Rg.upd_same,hκ,rst,ZwT hO hx];have hr:rqN (I.mc 0).pc.m (k/((I.mc 0).pc.m-1)) (k%((I.mc 0).pc.m-1)) x=(I.mc 0).pc.rq x k:=rfl;rw[hr];simp only[ZvE];rfl
 ·have hni:¬((Zdf lo hi (I.mc 0).pc.m ((I.mc 0).pc.rq x k)).1<=(i:Int)/\(i:Int)<(Zdf lo hi (I.mc 0).pc.m ((I.mc 0).pc.rq x k)).2):=fun h=>hji (ZrV hok hj (by dsimp only;omega) (by dsimp only;omega))
  rw[if_neg hni];unfold rvK;rw[Rg.upd_ne _ _ hji]
end
structure Vs(I:InC)(F:Nat->Cr)(z:Nat->Nat->Int)(κ:Nat->Nat)(P M:List Int)(rcd:List (List Int×List Int)):Prop where
 G:∀x,x<I.rg.n->(F x).G=ZaN (rvK I z κ x) I.P
 P:∀x,x<I.rg.n->(F x).P=P
 M:∀x,x<I.rg.n->(F x).M=M
 rcd:∀x,x<I.rg.n->(F x).rcd=rcd
section
variable{I:InC}{F:Nat→Cr}{z:Nat→Nat→Int}{κ:Nat→Nat}{P M:List Int}{rcd:List (List Int×List Int)}{t:Nat}
theorem Vs.job(hO:I.Ok)(h:Vs I F z κ P M rcd){k j:Nat}(hk:k<2*((I.mc 0).pc.m-1))(hj:j<(I.mc 0).pc.nb)(hκ:κ j=k):Vs I (Zgw I t (Zk8 k j 60) F) z (Rg.upd κ j (k+1)) P M rcd:=by
 have e:=fun x (hx:x<I.rg.n)=>ZtQ (t:=t) hO hk hj hκ h.G hx
 exact⟨fun x hx=>by rw[e x hx],fun x hx=>by rw[e x hx];exact h.P x hx,fun x hx=>by rw[e x hx];exact h.M x hx,fun x hx=>by rw[e x hx];exact h.rcd x hx⟩
def Zsv(κ:Nat->Nat)(lo n k:Nat):Nat->Nat:=fun j=>if lo<=j/\j<lo+n then k else κ j
theorem Vs.congr{κ':Nat->Nat}(h:Vs I F z κ P M rcd)(e:∀j,κ j=κ' j):Vs I F z κ' P M rcd:=by
 have:κ=κ':=funext e;rw[<-this];exact h
theorem Vs.rnd(hO:I.Ok){lo k:Nat}(hk:k<2*((I.mc 0).pc.m-1)):∀(n:Nat) {F:Nat->Cr},lo+n<=(I.mc 0).pc.nb->(∀j,lo<=j->j<lo+n->κ j=k)->Vs I F z κ P M rcd->Vs I (Zgw I t (Zst lo n 60 k) F) z (Zsv κ lo n (k+1)) P M rcd
 |0,F,_,_,h=>h.congr (fun j=>by unfold Zsv;rw[if_neg (by omega)])
 |n+1,F,hn,hκ,h=>by
  have ih:=Vs.rnd hO hk n (by omega) (fun j h1 h2=>hκ j h1 (by omega)) h;have e1:Zst lo (n+1) 60 k=Zst lo n 60 k++Zk8 k (lo+n) 60:=by unfold Zst;rw[List.range_succ,List.flatMap_append];simp
  rw[e1,Zbx];refine(ih.job hO hk (show lo+n<_ by omega) (by unfold Zsv;rw[if_neg (by omega)];exact hκ _ (by omega) (by omega))).congr (fun j=>?_)
  by_cases e:j=lo+n
  ·rw[e,Rg.upd_same];unfold Zsv;rw[if_pos (by omega)]
  ·rw[Rg.upd_ne _ _ e];unfold Zsv
   by_cases h1:lo<=j/\j<lo+n
   ·rw[if_pos h1,if_pos (by omega)]
   ·rw[if_neg h1,if_neg (by omega)]
theorem Vs.rnds(hO:I.Ok){lo n:Nat}(hn:lo+n<=(I.mc 0).pc.nb)(hκ:∀j,lo<=j->j<lo+n->κ j=0)(h:Vs I F z κ P M rcd):∀K,K<=2*((I.mc 0).pc.m-1)->Vs I (Zgw I t ((List.range K).flatMap (Zst lo n 60)) F) z (Zsv κ lo n K) P M rcd
 |0,_=>h.congr (fun j=>by
   unfold Zsv
   by_cases h1:lo<=j/\j<lo+n
   ·rw[if_pos h1];exact hκ j h1.1 h1.2
   ·rw[if_neg h1])
 |K+1,hK=>by
  have ih:=Vs.rnds hO hn hκ h K (by omega);rw[List.range_succ,List.flatMap_append,Zbx,List.flatMap_cons,List.flatMap_nil,List.append_nil];refine(Vs.rnd hO (show K<_ by omega) n hn (fun j h1 h2=>by unfold Zsv;rw[if_pos ⟨h1,h2⟩]) ih).congr (fun j=>?_);unfold Zsv
  by_cases h1:lo<=j/\j<lo+n
  ·rw[if_pos h1,if_pos h1]
  ·rw[if_neg h1,if_neg h1,if_neg h1]
theorem Vs.lau(h:Vs I F z κ P M rcd)(j:Nat):Vs I (stp I t (2,0,j,0) F) z κ P M rcd:=by
 have e:∀x,(stp I t (2,0,j,0) F x).G=(F x).G/\(stp I t (2,0,j,0) F x).P=(F x).P/\(stp I t (2,0,j,0) F x).M=(F x).M/\(stp I t (2,0,j,0) F x).rcd=(F x).rcd:=fun x=>by
  unfold stp;rw[if_neg (by show ¬(2:Nat)=3;decide),if_neg (by show ¬(2:Nat)=4;decide)];unfold ZaW Zb6;rw[if_neg (by show ¬((2:Nat):Int)=1;decide),if_pos (by show ((2:Nat):Int)=2;rfl)];exact⟨rfl,rfl,rfl,rfl⟩
 exact⟨fun x hx=>by rw[(e x).1];exact h.G x hx,fun x hx=>by rw[(e x).2.1];exact h.P x hx,fun x hx=>by rw[(e x).2.2.1];exact h.M x hx,fun x hx=>by rw[(e x).2.2.2];exact h.rcd x hx⟩
theorem Vs.laus(lo:Nat):∀(n:Nat) {F:Nat->Cr},Vs I F z κ P M rcd->Vs I (Zgw I t ((List.range n).map (fun i=>((2,0,lo+i,0):Sl4))) F) z κ P M rcd
 |0,F,h=>h
 |n+1,F,h=>by
  rw[List.range_succ,List.map_append,Zbx];exact(Vs.laus lo n h).lau _
end
def Zh2(I:InC)(z:Nat->Nat->Int)(i:Nat):Int:=wrap64 (Zez (fun v=>z v i) (I.mc 0).pc.m)
def pD(I:InC)(p μ T:Nat->Int)(D:Nat->Bool)(i:Nat):Int:=if D ((I.mc 0).pc.jof i)=true then Zkp I.c.ra I.c.sh (p i) (Zfy I.c.mo I.c.sh (μ i) (T i)) else p i
def mD(I:InC)(μ T:Nat->Int)(D:Nat->Bool)(i:Nat):Int:=if D ((I.mc 0).pc.jof i)=true then Zfy I.c.mo I.c.sh (μ i) (T i) else μ i
theorem ZiI(ra mo sh:Int)(f g:Nat->Int)(gs:List Int)(n lo k:Nat):Za8 ra mo sh (ZaN f n) (ZaN g n) gs lo k=ZaN (fun i=>if lo<=i/\i<lo+k then Zkp ra sh (f i) (Zfy mo sh (g i) (gs.getD (i-lo) 0)) else f i) n:=by
 apply List.ext_getElem?
 intro i;unfold Za8 ZaN;rw[List.getElem?_mapIdx,YaR,YaR]
 by_cases hi:i<n
 ·rw[List.getElem?_range hi];simp only[Option.map_some];rw[YaT,YaR,List.getElem?_range hi];rfl
 ·rw[YaN (by simp;omega)];rfl
theorem ZiJ(mo sh:Int)(g:Nat->Int)(gs:List Int)(n lo k:Nat):Za7 mo sh (ZaN g n) gs lo k=ZaN (fun i=>if lo<=i/\i<lo+k then Zfy mo sh (g i) (gs.getD (i-lo) 0) else g i) n:=by
 apply List.ext_getElem?
 intro i;unfold Za7 ZaN;rw[List.getElem?_mapIdx,YaR,YaR]
 by_cases hi:i<n
 ·rw[List.getElem?_range hi];rfl
 ·rw[YaN (by simp;omega)];rfl
def Zuv(D:Nat->Bool)(j:Nat):Nat->Bool:=fun i=>if i=j then true else D i
section
variable{I:InC}{F:Nat→Cr}{z:Nat→Nat→Int}{κ:Nat→Nat}{p μ:Nat→Int}{rcd:List (List Int×List Int)}{t:Nat}{D:Nat→Bool}
theorem ZwU(hO:I.Ok)(hz:∀w i,-9223372036854775808<=z w i/\z w i<=9223372036854775807){j i x:Nat}{y:Int×Int}(hj:(I.mc 0).pc.bks[j]?=some y)(hκ:κ j=2*((I.mc 0).pc.m-1))(h1:y.1<=(i:Int))(h2:(i:Int)<y.2)(hx:x<I.rg.n):rvK I z κ x i=Zh2 I z i:=by
 have hok:=InC.pc_ok hO;obtain⟨_,b1,_⟩:=PlC.bks_in hj;unfold rvK;rw[ZrV hok hj h1 h2,hj];dsimp only;rw[hκ,Zvy y.1 y.2 (I.mc 0).pc.m z hok.m1 b1 i x hx (fun w _=>hz w i),if_pos ⟨h1,h2⟩];rfl
theorem Vs.upd(hO:I.Ok)(hz:∀w i,-9223372036854775808<=z w i/\z w i<=9223372036854775807)(h:Vs I F z κ (ZaN (pD I p μ (Zh2 I z) D) I.P) (ZaN (mD I μ (Zh2 I z) D) I.P) rcd){j:Nat}(hj:j<(I.mc 0).pc.nb)(hκ:κ j=2*((I.mc 0).pc.m-1))(hD:D j=false) :
  Vs I (stp I t (5,0,j,0) F) z κ (ZaN (pD I p μ (Zh2 I z) (Zuv D j)) I.P) (ZaN (mD I μ (Zh2 I z) (Zuv D j)) I.P) rcd:=by
 have hok:=InC.pc_ok hO;obtain⟨⟨lo,hi⟩,hb⟩:=Zb0 (l:=(I.mc 0).pc.bks) (x:=j) (by rw[PlC.bks_length];exact hj);obtain⟨b0,b1,b2⟩:=PlC.bks_in hb;have hPP:(I.mc 0).pc.P=I.P:=rfl;rw[hPP] at b2;dsimp only at b0 b1 b2;obtain⟨o,ho⟩:=YaM b0;obtain⟨k,hk⟩:=YaM (show 0<=hi-lo by omega);have e:∀x,stp I t (5,0,j,0) F x=⟨Za8 I.c.ra I.c.mo I.c.sh (F x).P (F x).M (pcL (F x).G o k) o k,Za7 I.c.mo I.c.sh (F x).M (pcL (F x).G o k) o k,(F x).G,(F x).rcd,Zcu (F x).opn (j:Int)⟩:=fun x=>by
  unfold stp;rw[if_neg (by show ¬(5:Nat)=3;decide),if_neg (by show ¬(5:Nat)=4;decide)];unfold ZaW Zb6;rw[if_neg (by show ¬((5:Nat):Int)=1;decide),if_neg (by show ¬((5:Nat):Int)=2;decide),if_pos (by show ((5:Nat):Int)=5;rfl)];dsimp only;rw[Int.toNat_natCast,show (I.mc x).pc.bks[j]?=some (lo,hi) from hb];dsimp only;rw[show lo.toNat=o by omega,show (hi-lo).toNat=k by omega];rfl
 have hgs:∀x,x<I.rg.n->pcL (F x).G o k=(List.range k).map fun i=>Zh2 I z (o+i):=fun x hx=>by
  rw[h.G x hx];unfold pcL;rw[ZmY _ _ _ _ (by omega)]
  apply List.map_congr_left
  intro i hi';have:=List.mem_range.1 hi';exact ZwU hO hz hb hκ (by dsimp only;omega) (by dsimp only;omega) hx
 have hget:∀i,o<=i->i<o+k->((List.range k).map fun i=>Zh2 I z (o+i)).getD (i-o) 0=Zh2 I z i:=fun i h1 h2=>by
  rw[YaT,YaR,List.getElem?_range (by omega)];simp only[Option.map_some,Option.getD_some];rw[show o+(i-o)=i by omega]
 have hin:∀i,i<I.P->((o<=i/\i<o+k)↔(I.mc 0).pc.jof i=j):=fun i hiP=>by
  constructor
  ·rintro⟨h1,h2⟩;exact ZrV hok hb (by dsimp only;omega) (by dsimp only;omega)
  ·intro h1;obtain⟨_,y,hy,h2,h3⟩:=ZrW hok (i:=i) (show i<(I.mc 0).pc.P from hiP);rw[h1,hb] at hy;injection hy with hy
   rw[<-hy] at h2 h3;dsimp only at h2 h3;omega
 refine⟨fun x hx=>by rw[e x];exact h.G x hx,fun x hx=>?_,fun x hx=>?_,fun x hx=>by rw[e x];exact h.rcd x hx⟩
 ·rw[e x,hgs x hx,h.P x hx,h.M x hx];dsimp only;rw[ZiI];unfold ZaN
  apply List.map_congr_left
  intro i hi';have hiP:=List.mem_range.1 hi'
  by_cases h1:o<=i/\i<o+k
  ·have h2:=(hin i hiP).1 h1;rw[if_pos h1,hget i h1.1 h1.2];unfold pD mD Zuv;rw[h2,hD,if_neg (by decide),if_neg (by decide),if_pos rfl,if_pos rfl]
  ·have h2:(I.mc 0).pc.jof i≠j:=fun h3=>h1 ((hin i hiP).2 h3)
   rw[if_neg h1];unfold pD Zuv;rw[if_neg h2]
 ·rw[e x,hgs x hx,h.M x hx];dsimp only;rw[ZiJ];unfold ZaN
  apply List.map_congr_left
  intro i hi';have hiP:=List.mem_range.1 hi'
  by_cases h1:o<=i/\i<o+k
  ·have h2:=(hin i hiP).1 h1;rw[if_pos h1,hget i h1.1 h1.2];unfold mD Zuv;rw[h2,hD,if_neg (by decide),if_pos rfl,if_pos rfl]
  ·have h2:(I.mc 0).pc.jof i≠j:=fun h3=>h1 ((hin i hiP).2 h3)
   rw[if_neg h1];unfold mD Zuv;rw[if_neg h2]
end
def kD(I:InC)(d:Nat):Nat->Nat:=fun j=>if j<d then 2*((I.mc 0).pc.m-1) else 0
def bD(d:Nat):Nat->Bool:=fun j=>decide (j<d)
def ZxE(z:Nat->Nat->Int):Prop:=∀w i,-9223372036854775808<=z w i/\z w i<=9223372036854775807
def Vd(I:InC)(F:Nat->Cr)(z:Nat->Nat->Int)(p μ:Nat->Int)(rcd:List (List Int×List Int))(d:Nat):Prop:=
 Vs I F z (kD I d) (ZaN (pD I p μ (Zh2 I z) (bD d)) I.P) (ZaN (mD I μ (Zh2 I z) (bD d)) I.P) rcd
section
variable{I:InC}{F:Nat→Cr}{z:Nat→Nat→Int}{κ:Nat→Nat}{p μ:Nat→Int}{rcd:List (List Int×List Int)}{t:Nat}{D:Nat→Bool}
theorem ZvF(d n:Nat):Zuv (bD (d+n)) (d+n)=bD (d+(n+1)):=by
 funext j
 unfold Zuv bD
 by_cases h:j=d+n
 ·rw[if_pos h];symm;rw[decide_eq_true_eq];omega
 ·rw[if_neg h]
  by_cases h2:j<d+n
  ·rw[YaJ h2,YaJ (show j<d+(n+1) by omega)]
  ·rw[YaI h2,YaI (show ¬j<d+(n+1) by omega)]
theorem Vs.upds(hO:I.Ok)(hz:ZxE z){d:Nat}:∀(n:Nat) {F:Nat->Cr},d+n<=(I.mc 0).pc.nb->(∀j,d<=j->j<d+n->κ j=2*((I.mc 0).pc.m-1))->Vs I F z κ (ZaN (pD I p μ (Zh2 I z) (bD d)) I.P) (ZaN (mD I μ (Zh2 I z) (bD d)) I.P) rcd ->
  Vs I (Zgw I t ((List.range n).map (fun i=>((5,0,d+i,0):Sl4))) F) z κ (ZaN (pD I p μ (Zh2 I z) (bD (d+n))) I.P) (ZaN (mD I μ (Zh2 I z) (bD (d+n))) I.P) rcd
 |0,F,_,_,h=>h
 |n+1,F,hn,hκ,h=>by
  have ih:=Vs.upds hO hz n (by omega) (fun j h1 h2=>hκ j h1 (by omega)) h;rw[List.range_succ,List.map_append,Zbx];have:=ih.upd (t:=t) hO hz (j:=d+n) (by omega) (hκ _ (by omega) (by omega)) (by unfold bD;exact YaI (by omega));rw[ZvF] at this;exact this
theorem Vd.group(hO:I.Ok)(hz:ZxE z){d:Nat}(h:Vd I F z p μ rcd d){g:Int×Int}(h1:g.1=(d:Int))(h2:g.1<=g.2)(h3:g.2<=((I.mc 0).pc.nb:Int)):Vd I (Zgw I t ((I.mc 0).pc.grpS 60 g) F) z p μ rcd g.2.toNat:=by
 obtain⟨n,hn⟩:=YaM (show 0<=g.2-g.1 by omega);have e1:g.1.toNat=d:=by omega
 have e2:(g.2-g.1).toNat=n:=by omega
 have e3:g.2.toNat=d+n:=by omega
 unfold PlC.grpS;rw[e1,e2,e3,Zbx,Zbx];have a1:=Vs.laus (t:=t) d n h;have a2:=Vs.rnds (t:=t) hO (lo:=d) (n:=n) (by omega) (fun j h4 h5=>by unfold kD;rw[if_neg (by omega)]) a1 _ (YaF _);have a3:=a2.congr (κ':=kD I (d+n)) (fun j=>by
  unfold Zsv kD
  by_cases h4:d<=j/\j<d+n
  ·rw[if_pos h4,if_pos (by omega)]
  ·rw[if_neg h4]
   by_cases h5:j<d
   ·rw[if_pos h5,if_pos (by omega)]
   ·rw[if_neg h5,if_neg (by omega)])
 exact Vs.upds hO hz n (by omega) (fun j h4 h5=>by unfold kD;rw[if_pos (by omega)]) a3
theorem Vd.groups(hO:I.Ok)(hz:ZxE z):∀(l:List (Int×Int)) {F:Nat->Cr} {d:Nat} {e:Int},Zbn l (d:Int) e->e<=((I.mc 0).pc.nb:Int)->Vd I F z p μ rcd d->Vd I (Zgw I t (l.flatMap ((I.mc 0).pc.grpS 60)) F) z p μ rcd e.toNat
 |[],F,d,e,hc,he,h=>by
  unfold Zbn at hc;rw[<-hc,Int.toNat_natCast];exact h
 |g::l,F,d,e,hc,he,h=>by
  unfold Zbn at hc;obtain⟨h1,h2,h3⟩:=hc;have h4:=(Zfg h3).1;rw[List.flatMap_cons,Zbx];have:=h.group (t:=t) hO hz (g:=g) h1 (by omega) (by omega);refine Vd.groups hO hz l (d:=g.2.toNat) ?_ he this;rw[show ((g.2.toNat:Nat):Int)=g.2 by omega];exact h3
theorem Zpm{c:PlC}(h:c.Ok):Zbn c.grps 0 (c.nb:Int):=by
 have hn:=PlC.nb_pos h;have:=ZdN c.nb c.wi hn h.w1 (cnt c.nb c.wi) (YaF _);rw[YaX (by rw[Zan];exact YaF _)] at this;have e:min (cnt c.nb c.wi*c.wi) c.nb=c.nb:=by
  rw[Zdq _ _ hn h.w1,Nat.add_mul,Nat.one_mul];have h1:=Nat.div_add_mod (c.nb-1) c.wi;have h2:=Nat.mod_lt (c.nb-1) (show 0<c.wi from h.w1);rw[Nat.mul_comm] at h1;omega
 rw[e] at this;exact this
end
def Zpn(es:List ExS):Nat->Int
 |0=>0
 |k+1=>match es[k]? with
  |some s=>wrap64 (wrap64 (Zpn es k+if 1000<(s.1.2.1:Int) then 1000 else (s.1.2.1:Int))+if 1000<(s.2.2.1:Int) then 1000 else (s.2.2.1:Int))
  |none=>Zpn es k
def ZiK(es:List ExS)(m:Nat):Bool:=decide (m<=60) && decide (Zpn es (min m 100)<=600)
def ZtR(es:List ExS)(m:Nat)(w:World)(e:Ending)(w':World):Prop:=e=.returned (.bool (ZiK es m))/\Bz0 w w'
theorem ZrX(S:Option Addr)(m cS:Nat)(es:List ExS)(w:World)(hl:es.length=m)(h:Rd w 2 S m (exV es)) :
  Calls prog 227 #[.slice S m cS] w (ZtR es m w):=by
 have HL:=hid hl;have HR:=hid h;clear hl h
 go_enter func227,ntmps227
 go_wp2_with fail
 go_loopw [3,4] (fun o v wr=>∃(i:Nat) (z:Int),i<=m/\i<=100/\Zpn es i=z/\o=.int .i64 z/\v=.int .i64 i/\Bz0 w wr) (fun _ v _=>100-(intOf v).toNat)
 case atStart=>exact⟨0,0,by omega,by omega,rfl,rfl,rfl,bR0 _ _⟩
 case round=>
  obtain⟨i,z,him,hi,hz,rfl,rfl,hb⟩:=hrel;have HZ:=hid hz;clear hz
  by_cases hlt:i<m/\i<100
  ·obtain⟨h1,h2⟩:=hlt;obtain⟨s,hs⟩:∃s,es[i]?=some s:=⟨_,YaA (by rw[HL.out];exact h1)⟩;obtain⟨b5,o5,hA5,l5,q0,q1⟩:=Zrb (HR.out.below hb) hs h1;have HB:=hid hb;have HA:=hid hA5;have H1:=hid h1;have H2:=hid h2;have r1:(0:Int)<=(i:Int):=by omega
   have r2:(i:Int)<(m:Int):=by omega
   have r3:(i:Int)<100:=by omega
   have HS:=hid hs;clear hb hA5 h1 h2 hs;rw[HA.out];go_wp2_with fail;go_region;obtain⟨z',hz'⟩:∃z',wrap64 (wrap64 (z+if 1000<(s.1.2.1:Int) then 1000 else (s.1.2.1:Int))+if 1000<(s.2.2.1:Int) then 1000 else (s.2.2.1:Int))=z':=⟨_,rfl⟩;rw[hz'];have hz2:Zpn es (i+1)=z':=by rw[Zpn,HS.out];simp only[];rw[HZ.out];exact hz'
   have HZ2:=hid hz2;clear hz' hz2;generalize wrap64 (z+if 1000<(s.1.2.1:Int) then 1000 else (s.1.2.1:Int))=z2;generalize (if 1000<(s.1.2.1:Int) then 1000 else (s.1.2.1:Int))=z3;generalize (if 1000<(s.2.2.1:Int) then 1000 else (s.2.2.1:Int))=z4;go_wp2_with fail;have h1:=H1.out;have h2:=H2.out;refine⟨⟨i+1,z',by omega,by omega,HZ2.out,rfl,rfl,HB.out.drew⟩,?_⟩;simp[intOf];omega
  ·have HB:=hid hb;clear hb;have fin:(60<m)\/m<=60:=by omega
   have fz:(z<=600)\/¬z<=600:=by omega
   have hmin:min m 100=i:=by
    by_cases h1:i<m
    ·have h2:¬i<100:=fun e=>hlt ⟨h1,e⟩
     omega
    ·omega
   have hF:ZiK es m=(decide (m<=60) && decide (z<=600)):=by rw[ZiK,hmin,HZ.out]
   have HF:=hid hF;clear hF hmin
   by_cases h1:i<m
   ·have h2:¬i<100:=fun e=>hlt ⟨h1,e⟩
    have r2:(i:Int)<(m:Int):=by omega
    have r3:¬(i:Int)<100:=by omega
    have r4:¬(m:Int)<=60:=by omega
    have H3:=hid (show ¬m<=60 by omega);have e4:decide ((m:Int)<=60)=false:=YaI r4;clear hlt h1 h2 him hi fin fz;go_wp2_with fail;go_ret;exact⟨Zap (by rw[HF.out,YaI H3.out];rfl),HB.out⟩
   ·have r2:¬(i:Int)<(m:Int):=by omega
    clear hlt h1 him hi
    rcases fin with f|f
    ·have e4:decide ((m:Int)<=60)=false:=YaI (by omega);have H3:=hid (show ¬m<=60 by omega);clear f;go_wp2_with fail;go_ret;exact⟨Zap (by rw[HF.out,YaI H3.out];rfl),HB.out⟩
    ·have e4:decide ((m:Int)<=60)=true:=YaJ (by omega);have F:=hid f;clear f
     rcases fz with f|f
     ·have e5:decide (z<=600)=true:=YaJ f;go_wp2_with fail;go_ret;exact⟨Zap (by rw[HF.out,e5,YaJ F.out];rfl),HB.out⟩
     ·have e5:decide (z<=600)=false:=YaI f;go_wp2_with fail;go_ret;exact⟨Zap (by rw[HF.out,e5,YaJ F.out];rfl),HB.out⟩
section
variable(A:Option Addr)(n cap:Nat)(c:Cfg)(S:Option Addr)(m cS:Nat)(es:List ExS)(AP:Option Addr)(P cP:Nat)(AD:Option Addr)(D cD:Nat)(w:World)
def Zfi(n:Nat)(es:List ExS)(m P D:Nat):Bool:=decide (n<=40) && (ZiK es m && (decide (P<=600) && decide (D<=2000)))
theorem ZrY{n:Nat}{es:List ExS}{m P D:Nat}(h:Zfi n es m P D=true):n<=40/\m<=60/\P<=600/\D<=2000:=by
 simp only[Zfi,ZiK,YaQ,decide_eq_true_eq] at h;exact⟨h.1,h.2.1.1,h.2.2.1,h.2.2.2⟩
def ZtS(n:Nat)(es:List ExS)(m P D:Nat)(w:World)(e:Ending)(w':World):Prop:=e=.returned (.bool (Zfi n es m P D))/\Bz0 w w'
theorem ZrZ(hl:es.length=m)(h:Rd w 2 S m (exV es)) :
  Calls prog 178 #[inV A n cap c S m cS AP P cP AD D cD] w (ZtS n es m P D w):=by
 have HG:Hid (∀W,w.alloc (.cells (inC A n cap c S m cS AP P cP AD D cD) 29)=W->Below w.heap.size w W/\Blk W w.heap.size 29 (inC A n cap c S m cS AP P cP AD D cD)):=hid (by
  rintro W rfl;exact⟨bA0 _,Blk.new _ _ _⟩)
 have HC:=hid (fun W (r:Rd W 2 S m (exV es))=>ZrX S m cS es W hl r);have HR:=hid h;clear h hl
 by_cases h40:n<=40
 ·have e1:decide ((n:Int)<=40)=true:=YaJ (by omega);have H40:=hid h40;clear h40
  go_enter func178,ntmps178
  go_wp2_with fail;obtain⟨w0,hw0⟩:∃w0,w.alloc (.cells (inC A n cap c S m cS AP P cP AD D cD) 29)=w0:=⟨_,rfl⟩;obtain⟨hB,hK⟩:=HG.out _ hw0;rw[hw0];clear hw0 HG;have HB:=hid hB;have HK:=hid hK;((with_reducible refine(HC.out _ (HR.out.below hB)).mono ?_);rintro e w1 ⟨rfl,hb1⟩);obtain⟨b,hbt⟩:∃b,ZiK es m=b:=⟨_,rfl⟩;rw[hbt];have k1:=HK.out.kept hb1;have HB1:=hid (bT0 HB.out hb1);have HBT:=hid hbt;have c13:=cv13 k1;have c14:=cv14 k1;have lc:=k1.lt;clear hB hK hb1 k1 HB HK hbt HC HR;have fp:P<=600\/¬P<=600:=by omega
  have fd:D<=2000\/¬D<=2000:=by omega
  cases b
  ·clear fp fd;go_wp2_with fail;go_ret;exact⟨Zap (by rw[Zfi,HBT.out,YaJ H40.out];rfl),HB1.out⟩
  ·rcases fp with f|f
   ·have e2:decide ((P:Int)<=600)=true:=YaJ (by omega);have F:=hid f;clear f
    rcases fd with f|f
    ·have e3:decide ((D:Int)<=2000)=true:=YaJ (by omega);have F3:=hid f;clear f;go_wp2_with fail;go_ret;exact⟨Zap (by rw[Zfi,HBT.out,YaJ H40.out,YaJ F.out,YaJ F3.out];rfl),HB1.out⟩
    ·have e3:decide ((D:Int)<=2000)=false:=YaI (by omega);have F3:=hid f;clear f;go_wp2_with fail;go_ret;exact⟨Zap (by rw[Zfi,HBT.out,YaJ H40.out,YaJ F.out,YaI F3.out];rfl),HB1.out⟩
   ·have e2:decide ((P:Int)<=600)=false:=YaI (by omega);have F:=hid f;clear f fd;go_wp2_with fail;go_ret;exact⟨Zap (by rw[Zfi,HBT.out,YaJ H40.out,YaI F.out];rfl),HB1.out⟩
 ·have e1:decide ((n:Int)<=40)=false:=YaI (by omega);have H40:=hid h40;clear h40
  go_enter func178,ntmps178
  go_wp2_with fail;go_ret;exact⟨Zap (by rw[Zfi,YaI H40.out];rfl),bA0 _⟩
end
section
variable(A:Option Addr)(n cap:Nat)(l:List Int)(c:Cfg)(S:Option Addr)(m cS:Nat)(es:List ExS)(AP:Option Addr)(P cP:Nat)(AD:Option Addr)(D cD:Nat)(w:World)
theorem Zhd{l:List Int}{c:Cfg}(h:ZaO l c=true):l.length<=16/\ZaU l=false:=by
 simp only[ZaO,YaQ] at h;have h1:=h.2.2.1;simp only[ZaI,YaQ,decide_eq_true_eq,Bool.not_eq_true'] at h1;exact⟨h1.1.1.2,h1.1.2⟩
structure Few14(n m P D:Nat)(l:List Int)(c:Cfg):Prop where
 n40:n<=40
 m60:m<=60
 P600:P<=600
 D2000:D<=2000
 st:ZaO l c=true->c.st<=12
def ZtT(n m P D:Nat)(l:List Int)(c:Cfg)(w:World)(e:Ending)(w':World):Prop:=∃b:Bool,e=.returned (.bool b)/\(b=true->Few14 n m P D l c)/\Bz0 w w'
theorem Zr0(hln:l.length=n)(hr:Rd w 1 A n (iv l))(hl:es.length=m)(h:Rd w 2 S m (exV es)) :
  Calls prog 95 #[inV A n cap c S m cS AP P cP AD D cD] w (ZtT n m P D l c w):=by
 have HG:Hid (∀W,(w.alloc (.cells (inC A n cap c S m cS AP P cP AD D cD) 29)).alloc (.cells (ZfT A n cap c) 24)=W->Below w.heap.size w W/\Blk W w.heap.size 29 (inC A n cap c S m cS AP P cP AD D cD)/\Blk W (w.heap.size+1) 24 (ZfT A n cap c)):=hid (by
  rintro W rfl;exact⟨(bA0 _).alloc (by simp) _,(Blk.new _ _ _).alloc _,Blk.new' _ _ (by simp)⟩)
 have HF:=hid (fun W (r:Rd W 2 S m (exV es))=>ZrZ A n cap c S m cS es AP P cP AD D cD W hl r);have HK:=hid (fun W (r:Rd W 1 A n (iv l)) (h40:n<=40)=>Zc5 A n cap l c W hln r (by omega));have HCT:=hid (fun W (r:Rd W 1 A n (iv l)) (ho:ZaO l c=true)=>Zbt A n cap l W hln r (by rw[<-hln];exact(Zhd ho).1) (Zhd ho).2);have HR:=hid h;have HQ:=hid hr;clear h hl hln hr
 go_enter func95,ntmps95
 go_wp2_with fail;obtain⟨w0,hw0⟩:∃w0,(w.alloc (.cells (inC A n cap c S m cS AP P cP AD D cD) 29)).alloc (.cells (ZfT A n cap c) 24)=w0:=⟨_,rfl⟩;obtain⟨hB,hI,hC⟩:=HG.out _ hw0;rw[hw0];clear hw0 HG;have HB:=hid hB;have HI:=hid hI;have HC:=hid hC;((with_reducible refine(HF.out _ (HR.out.below hB)).mono ?_);rintro e w1 ⟨rfl,hb1⟩);obtain⟨b,hbt⟩:∃b,Zfi n es m P D=b:=⟨_,rfl⟩;rw[hbt];have HB1:=hid (bT0 HB.out hb1);have HI1:=hid (HI.out.kept hb1);have HC1:=hid (HC.out.kept hb1);have HBT:=hid hbt;clear hB hI hC hbt hb1 HB HI HC
 cases b
 ·have k:=HI1.out;obtain⟨c0,c1,c2,c3,c4,c5,c6,c7,c8,c9,c10,c11,c12,c13,c14⟩:=cl15 k;have lc:=k.lt;clear k;go_wp2_with fail;clear c0 c1 c2 c3 c4 c5 c6 c7 c8 c9 c10 c11 c12 c13 c14 lc;((with_reducible refine(HF.out _ (HR.out.below HB1.out)).mono ?_);rintro e w2 ⟨rfl,hb2⟩);rw[HBT.out];have HB2:=hid (bT0 HB1.out hb2);clear hb2;go_wp2_with fail;go_ret;exact⟨false,rfl,fun e=>by simp at e,HB2.out⟩
 ·have k:=HC1.out;obtain⟨c0,c1,c2,c3,c4,c5,c6,c7,c8,c9,c10,c11⟩:=cl12 k;have lc:=k.lt;clear k;go_wp2_with fail;clear c0 c1 c2 c3 c4 c5 c6 c7 c8 c9 c10 c11 lc;have hle:=ZrY HBT.out;((with_reducible refine(HK.out _ (HQ.out.below HB1.out) hle.1).mono ?_);rintro e w2 ⟨cd,rfl,hcd,hb2⟩);have HLE:=hid hle;have HCD:=hid hcd;have HB2:=hid (bT0 HB1.out hb2);have HI2:=hid (HI1.out.kept hb2);have HC2:=hid (HC1.out.kept hb2);clear hle hcd hb2
  by_cases h0:cd=0
  ·subst h0;have HO:=hid (HCD.out.1 rfl);have k:=HC2.out;have c0:=cv0 k;have c5:=cv5 k;have c7:=cv7 k;have lc:=k.lt;clear k
   by_cases f1:c.st<=12
   ·have g1:decide (c.st<=12)=true:=YaJ f1;have F1:=hid f1;clear f1;go_wp2_with fail;((with_reducible refine(HCT.out w2 (HQ.out.below HB2.out) HO.out).mono ?_);rintro e w3 ⟨rfl,hb3⟩);have HB3:=hid (bT0 HB2.out hb3);have c5':w3.cell? ⟨w.heap.size+1,5,none⟩=some (.int .i64 c.ba):=(HC2.out.kept hb3).cell 5;have lc':=(HC2.out.kept hb3).lt;obtain⟨ct,hct⟩:∃ct,Zbr l (n-1)=ct:=⟨_,rfl⟩;rw[hct];clear hb3 hct c0 c5 c7 lc
    by_cases f2:ct<=150
    ·have g2:decide (ct<=150)=true:=YaJ f2
     by_cases f3:c.ba<=40
     ·have g3:decide (c.ba<=40)=true:=YaJ f3;clear f2 f3;go_wp2_with fail;go_ret;exact⟨_,rfl,fun _=>⟨HLE.out.1,HLE.out.2.1,HLE.out.2.2.1,HLE.out.2.2.2,fun _=>F1.out⟩,HB3.out⟩
     ·have g3:decide (c.ba<=40)=false:=YaI f3;clear f2 f3;go_wp2_with fail;go_ret;exact⟨_,rfl,fun _=>⟨HLE.out.1,HLE.out.2.1,HLE.out.2.2.1,HLE.out.2.2.2,fun _=>F1.out⟩,HB3.out⟩
    ·have g2:decide (ct<=150)=false:=YaI f2;clear f2;go_wp2_with fail;go_ret;exact⟨_,rfl,fun _=>⟨HLE.out.1,HLE.out.2.1,HLE.out.2.2.1,HLE.out.2.2.2,fun _=>F1.out⟩,HB3.out⟩
   ·have g1:decide (c.st<=12)=false:=YaI f1;clear f1;go_wp2_with fail;go_ret;exact⟨_,rfl,fun e=>by simp at e,HB2.out⟩
  ·have hno:ZaO l c=false:=by
    cases hh:ZaO l c with
    |false=>rfl
    |true=>exact absurd (HCD.out.2 hh) h0
   have HNO:=hid hno;have e5:(cd==0)=false:=by simp[h0]
   have k:=HI2.out;obtain⟨c0,c1,c2,c3,c4,c5,c6,c7,c8,c9,c10,c11,c12,c13,c14⟩:=cl15 k;have lc:=k.lt;clear k hno;go_wp2_with fail;clear c0 c1 c2 c3 c4 c5 c6 c7 c8 c9 c10 c11 c12 c13 c14 lc;((with_reducible refine(HF.out _ (HR.out.below HB2.out)).mono ?_);rintro e w3 ⟨rfl,hb3⟩);rw[HBT.out];have HB3:=hid (bT0 HB2.out hb3);clear hb3;go_wp2_with fail;go_ret;exact⟨_,rfl,fun _=>⟨HLE.out.1,HLE.out.2.1,HLE.out.2.2.1,HLE.out.2.2.2,fun e=>by rw[HNO.out] at e;cases e⟩,HB3.out⟩
theorem ZiL:Calls prog 70 #[inV A n cap c S m cS AP P cP AD D cD] w fun e w'=>e=.returned (ZnN A n cap c P)/\Bz0 w w':=by
 go_enter func70,ntmps70
 go_wp2_with fail
 (try simp only[Exit.inBlock,Exit.then])
 refine bodyPost_ret (results_cell_row rfl _ _ (w.heap.size+1) _ _ (0,0) _ rfl (Blk.new' _ _ (by simp)) underlying172 rfl (by kernel_rfl)) rfl ?_;exact⟨rfl,(bA0 _).alloc (by simp) _⟩
end
theorem ZvG{l:List Int}(hp:∀(k:Nat) (x:Int),l[k]?=some x->1<=x){k:Nat}(hk:k+1<l.length):1<=Zbr l (k+1):=by
 rw[Zrf hp (k+1) hk];have h1:=hp (k+1) _ (YaA hk);have h2:1<=szN l (k+1):=by
  unfold szN;rw[YaT,YaA hk];simp only[Option.getD_some];omega
 have h3:ofN l (k+1)=ofN l k+szN l (k+1)*szN l k+szN l (k+1):=rfl;omega
theorem ZtU{l:List Int}{c:Cfg}{es:List ExS}{m P D:Nat}(h:Zht l c es m P D=true):1<=P/\ZaO l c=true/\P<=1048576+P:=by
 unfold Zht at h;simp only[YaQ,decide_eq_true_eq] at h;obtain⟨h1,h2,h3,h4,h5⟩:=h;obtain⟨a1,a2,a3,-⟩:=Zba h1;obtain⟨s2,s16,sw,-⟩:=Zcs a3;have hp:∀(k:Nat) (x:Int),l[k]?=some x->1<=x:=by
  intro k x hk;have hm:=YaL hk;have h1:¬(l.any fun x=>decide (x<1) || decide (1048576<x))=true:=by
   have:ZaU l=false:=sw;unfold ZaU at this;rw[this]
   decide
  rw[List.any_eq_true] at h1;have h2:¬(decide (x<1) || decide (1048576<x))=true:=fun e=>h1 ⟨x,hm,e⟩
  simp at h2;omega
 have h6:=ZvG hp (k:=l.length-2) (by omega);rw[show l.length-2+1=l.length-1 by omega] at h6;exact⟨by omega,h1,by omega⟩
def Zuw(n m P D:Nat)(l:List Int)(c:Cfg)(es:List ExS):Prop:=Few14 n m P D l c/\(Zht l c es m P D=true->c.mi<=20/\c.wk<=8/\P<=60)
def Zll(n m P D:Nat)(l:List Int)(c:Cfg)(es:List ExS)(w:World)(e:Ending)(w':World):Prop:=∃b:Bool,e=.returned (.bool b)/\(b=true->Zuw n m P D l c es)/\Bz0 w w'
theorem ZtV{n m P D:Nat}{l:List Int}{c:Cfg}{es:List ExS}(f:Few14 n m P D l c)(h:Zjx n l c P=true):Zuw n m P D l c es:=⟨f,fun hok=>by
 obtain⟨h1,h2,-⟩:=ZtU hok;have h3:Zeh l c P=true:=by
  unfold Zeh;have:=f.P600;rw[h2,YaJ (show (1:Int)<=(P:Int) by omega),YaJ (show (P:Int)<=1048576 by omega)];rfl
 unfold Zjx at h;have:=f.n40;rw[if_neg (by omega),if_pos h3] at h;simp only[YaQ,decide_eq_true_eq] at h;exact⟨by omega,by omega,by omega⟩⟩
section
variable(A:Option Addr)(n cap:Nat)(l:List Int)(c:Cfg)(S:Option Addr)(m cS:Nat)(es:List ExS)(AP:Option Addr)(P cP:Nat)(AD:Option Addr)(D cD:Nat)(w:World)
theorem Zpo(hcap:n<=cap)(hln:l.length=n)(hr:Rd w 1 A n (iv l))(hl:es.length=m)(h:Rd w 2 S m (exV es)) :
  Calls prog 30 #[inV A n cap c S m cS AP P cP AD D cD] w (Zll n m P D l c es w):=by
 have HG:Hid (∀W,w.alloc (.cells (inC A n cap c S m cS AP P cP AD D cD) 29)=W->Below w.heap.size w W/\Blk W w.heap.size 29 (inC A n cap c S m cS AP P cP AD D cD)):=hid (by
  rintro W rfl;exact⟨bA0 _,Blk.new _ _ _⟩)
 have HF:=hid (fun W (r1:Rd W 1 A n (iv l)) (r:Rd W 2 S m (exV es))=>Zr0 A n cap l c S m cS es AP P cP AD D cD W hln r1 hl r);have HIN:=hid (fun W (r1:Rd W 1 A n (iv l)) (r:Rd W 2 S m (exV es)) (f:Few14 n m P D l c)=>Zcw A n cap l c S m cS es AP P cP AD D cD W hln r1 hcap (by have:=f.n40;omega) hl r (by have:=f.m60;omega) (by have:=f.P600;omega) (by have:=f.D2000;omega) (fun e=>by have:=f.st e;omega));have HPL:=hid (fun W=>ZiL A n cap c S m cS AP P cP AD D cD W);have HPF:=hid (fun W (r1:Rd W 1 A n (iv l))=>Zo0 A n cap l c P W hln r1);have HR:=hid h;have HQ:=hid hr;clear h hl hln hr hcap
 go_enter func30,ntmps30
 go_wp2_with fail;obtain⟨w0,hw0⟩:∃w0,w.alloc (.cells (inC A n cap c S m cS AP P cP AD D cD) 29)=w0:=⟨_,rfl⟩;obtain⟨hB,hI⟩:=HG.out _ hw0;rw[hw0];clear hw0 HG;have HB:=hid hB;have HI:=hid hI;((with_reducible refine(HF.out _ (HQ.out.below hB) (HR.out.below hB)).mono ?_);rintro e w1 ⟨b,rfl,hbt,hb1⟩);have HB1:=hid (bT0 HB.out hb1);have HI1:=hid (HI.out.kept hb1);have HBT:=hid hbt;clear hB hI hbt hb1 HB HI
 cases b
 ·go_wp2_with fail;go_ret;exact⟨false,rfl,fun e=>by simp at e,HB1.out⟩
 ·have hf:Few14 n m P D l c:=HBT.out (by trivial);have HFT:=hid hf;clear hf HBT;have k:=HI1.out;obtain⟨c0,c1,c2,c3,c4,c5,c6,c7,c8,c9,c10,c11,c12,c13,c14⟩:=cl15 k;have lc:=k.lt;clear k;go_wp2_with fail;clear c0 c1 c2 c3 c4 c5 c6 c7 c8 c9 c10 c11 c12 c13 c14 lc;((with_reducible refine(HIN.out w1 (HQ.out.below HB1.out) (HR.out.below HB1.out) HFT.out).mono ?_);rintro e w2 ⟨cd,rfl,hcd,hb2⟩);have HB2:=hid (bT0 HB1.out hb2);have HI2:=hid (HI1.out.kept hb2);have HCD:=hid hcd;clear hcd hb2
  by_cases h0:cd=0
  ·subst h0;have k:=HI2.out;obtain⟨c0,c1,c2,c3,c4,c5,c6,c7,c8,c9,c10,c11,c12,c13,c14⟩:=cl15 k;have lc:=k.lt;clear k;go_wp2_with fail;clear c0 c1 c2 c3 c4 c5 c6 c7 c8 c9 c10 c11 c12 c13 c14 lc;((with_reducible refine(HPL.out w2).mono ?_);rintro e w3 ⟨rfl,hb3⟩);have HB3:=hid (bT0 HB2.out hb3);have HI3:=hid (HI2.out.kept hb3);clear hb3;go_wp2_with fail;((with_reducible refine(HPF.out w3 (HQ.out.below HB3.out)).mono ?_);rintro e w4 ⟨rfl,hb4⟩);have HB4:=hid (bT0 HB3.out hb4);have k:=HI3.out.kept hb4;have c7:=cv7 k;have c12:=cv12 k;have lc:=k.lt;obtain⟨q,hq⟩:∃q,Zjx n l c P=q:=⟨_,rfl⟩;rw[hq];have fin:∀(b:Bool) (W:World),(b=true->q=true)->Below w.heap.size w W->Zll n m P D l c es w (.returned (.bool b)) W:=fun b W hqb hb=>⟨b,rfl,fun e=>ZtV HFT.out (hq.trans (hqb e)),hb⟩
   clear hb4 k hq;have FIN:=hid fin;clear fin
   cases q
   ·go_wp2_with fail;go_ret;exact FIN.out _ _ (by simp) HB4.out
   ·by_cases f1:c.st<=6
    ·have g1:decide (c.st<=6)=true:=YaJ f1
     by_cases f2:m<=40
     ·have g2:decide ((m:Int)<=40)=true:=YaJ (by omega);clear f1 f2;go_wp2_with fail;go_ret;exact FIN.out _ _ (by simp) HB4.out
     ·have g2:decide ((m:Int)<=40)=false:=YaI (by omega);clear f1 f2;go_wp2_with fail;go_ret;exact FIN.out _ _ (by simp) HB4.out
    ·have g1:decide (c.st<=6)=false:=YaI f1;clear f1;go_wp2_with fail;go_ret;exact FIN.out _ _ (by simp) HB4.out
  ·have e5:(cd==0)=false:=by simp[h0]
   go_wp2_with fail;go_ret;exact⟨_,rfl,fun _=>⟨HFT.out,fun hok=>absurd (HCD.out.2 hok) h0⟩,HB2.out⟩
end
def ZwV(n m P D:Nat)(l:List Int)(c:Cfg)(es:List ExS):Prop:=Few14 n m P D l c/\(Zht l c es m P D=true->c.mi<=20/\c.wk<=6/\P<=40/\c.st<=5)
def Zlm(n m P D:Nat)(l:List Int)(c:Cfg)(es:List ExS)(w:World)(e:Ending)(w':World):Prop:=∃b:Bool,e=.returned (.bool b)/\(b=true->ZwV n m P D l c es)/\Bz0 w w'
section
variable(A:Option Addr)(n cap:Nat)(l:List Int)(c:Cfg)(S:Option Addr)(m cS:Nat)(es:List ExS)(AP:Option Addr)(P cP:Nat)(AD:Option Addr)(D cD:Nat)(w:World)
theorem Zpp(hcap:n<=cap)(hln:l.length=n)(hr:Rd w 1 A n (iv l))(hl:es.length=m)(h:Rd w 2 S m (exV es)) :
  Calls prog 7 #[inV A n cap c S m cS AP P cP AD D cD] w (Zlm n m P D l c es w):=by
 have HG:Hid (∀W,w.alloc (.cells (inC A n cap c S m cS AP P cP AD D cD) 29)=W->Below w.heap.size w W/\Blk W w.heap.size 29 (inC A n cap c S m cS AP P cP AD D cD)):=hid (by
  rintro W rfl;exact⟨bA0 _,Blk.new _ _ _⟩)
 have HF:=hid (fun W (r1:Rd W 1 A n (iv l)) (r:Rd W 2 S m (exV es))=>Zpo A n cap l c S m cS es AP P cP AD D cD W hcap hln r1 hl r);have HIN:=hid (fun W (r1:Rd W 1 A n (iv l)) (r:Rd W 2 S m (exV es)) (f:Few14 n m P D l c)=>Zcw A n cap l c S m cS es AP P cP AD D cD W hln r1 hcap (by have:=f.n40;omega) hl r (by have:=f.m60;omega) (by have:=f.P600;omega) (by have:=f.D2000;omega) (fun e=>by have:=f.st e;omega));have HR:=hid h;have HQ:=hid hr;clear h hl hln hr hcap
 go_enter func7,ntmps7
 go_wp2_with fail;obtain⟨w0,hw0⟩:∃w0,w.alloc (.cells (inC A n cap c S m cS AP P cP AD D cD) 29)=w0:=⟨_,rfl⟩;obtain⟨hB,hI⟩:=HG.out _ hw0;rw[hw0];clear hw0 HG;have HB:=hid hB;have HI:=hid hI;((with_reducible refine(HF.out _ (HQ.out.below hB) (HR.out.below hB)).mono ?_);rintro e w1 ⟨b,rfl,hbt,hb1⟩);have HB1:=hid (bT0 HB.out hb1);have HI1:=hid (HI.out.kept hb1);have HBT:=hid hbt;clear hB hI hbt hb1 HB HI
 cases b
 ·go_wp2_with fail;go_ret;exact⟨false,rfl,fun e=>by simp at e,HB1.out⟩
 ·have hf:=HBT.out (by trivial);have HFT:=hid hf.1;have HFG:=hid hf.2;clear hf HBT;have k:=HI1.out;obtain⟨c0,c1,c2,c3,c4,c5,c6,c7,c8,c9,c10,c11,c12,c13,c14⟩:=cl15 k;have lc:=k.lt;clear k;go_wp2_with fail;clear c0 c1 c2 c3 c4 c5 c6 c7 c8 c9 c10 c11 c12 c13 c14 lc;((with_reducible refine(HIN.out w1 (HQ.out.below HB1.out) (HR.out.below HB1.out) HFT.out).mono ?_);rintro e w2 ⟨cd,rfl,hcd,hb2⟩);have HB2:=hid (bT0 HB1.out hb2);have HI2:=hid (HI1.out.kept hb2);have HCD:=hid hcd;clear hcd hb2
  by_cases h0:cd=0
  ·subst h0;have k:=HI2.out;have c4:=cv4 k;have c7:=cv7 k;have c13:=cv13 k;have lc:=k.lt;have fin:∀(b:Bool) (W:World),(b=true->c.wk<=6/\c.st<=5/\P<=40)->Below w.heap.size w W->Zlm n m P D l c es w (.returned (.bool b)) W:=fun b W hx hb=>⟨b,rfl,fun e=>⟨HFT.out,fun hok=>⟨(HFG.out hok).1,(hx e).1,(hx e).2.2,(hx e).2.1⟩⟩,hb⟩
   have FIN:=hid fin;clear fin k
   by_cases f0:c.wk<=6
   ·have g0:decide (c.wk<=6)=true:=YaJ (by omega);have F0:=hid f0;clear f0
    by_cases f1:c.st<=5
    ·have g1:decide (c.st<=5)=true:=YaJ (by omega);have F1:=hid f1;clear f1
     by_cases f2:P<=40
     ·have g2:decide ((P:Int)<=40)=true:=YaJ (by omega);have F2:=hid f2;clear f2;go_wp2_with fail;go_ret;exact FIN.out _ _ (fun _=>⟨F0.out,F1.out,F2.out⟩) HB2.out
     ·have g2:decide ((P:Int)<=40)=false:=YaI (by omega);have F2:=hid f2;clear f2;go_wp2_with fail;go_ret;exact FIN.out _ _ (fun e=>by simp at e) HB2.out
    ·have g1:decide (c.st<=5)=false:=YaI (by omega);have F1:=hid f1;clear f1;go_wp2_with fail;go_ret;exact FIN.out _ _ (fun e=>by simp at e) HB2.out
   ·have g0:decide (c.wk<=6)=false:=YaI (by omega);have F0:=hid f0;clear f0;go_wp2_with fail;go_ret;exact FIN.out _ _ (fun e=>by simp at e) HB2.out
  ·have e5:(cd==0)=false:=by simp[h0]
   go_wp2_with fail;go_ret;exact⟨_,rfl,fun _=>⟨HFT.out,fun hok=>absurd (HCD.out.2 hok) h0⟩,HB2.out⟩
end
structure Zwd(n m P D:Nat)(l:List Int)(c:Cfg)(es:List ExS):Prop where
 few:Few14 n m P D l c
 ok:Zht l c es m P D=true
 mi:c.mi<=20
 wk:c.wk<=6
 P40:P<=40
 st5:c.st<=5
def ZvH(n m P D:Nat)(l:List Int)(c:Cfg)(es:List ExS)(w:World)(e:Ending)(w':World):Prop:=∃b:Bool,e=.returned (.bool b)/\(b=true->Zwd n m P D l c es)/\Bz0 w w'
section
variable(A:Option Addr)(n cap:Nat)(l:List Int)(c:Cfg)(S:Option Addr)(m cS:Nat)(es:List ExS)(AP:Option Addr)(P cP:Nat)(AD:Option Addr)(D cD:Nat)(w:World)
theorem Zm2(AO:Option Addr)(no cO:Nat)(hcap:n<=cap)(hln:l.length=n)(hr:Rd w 1 A n (iv l))(hl:es.length=m)(h:Rd w 2 S m (exV es)) :
  Calls prog 17 #[inV A n cap c S m cS AP P cP AD D cD,.slice AO no cO] w (ZvH n m P D l c es w):=by
 have HG:Hid (∀W,w.alloc (.cells (inC A n cap c S m cS AP P cP AD D cD) 29)=W->Below w.heap.size w W/\Blk W w.heap.size 29 (inC A n cap c S m cS AP P cP AD D cD)):=hid (by
  rintro W rfl;exact⟨bA0 _,Blk.new _ _ _⟩)
 have HF:=hid (fun W (r1:Rd W 1 A n (iv l)) (r:Rd W 2 S m (exV es))=>Zpp A n cap l c S m cS es AP P cP AD D cD W hcap hln r1 hl r);have HIN:=hid (fun W (r1:Rd W 1 A n (iv l)) (r:Rd W 2 S m (exV es)) (f:Few14 n m P D l c)=>Zcw A n cap l c S m cS es AP P cP AD D cD W hln r1 hcap (by have:=f.n40;omega) hl r (by have:=f.m60;omega) (by have:=f.P600;omega) (by have:=f.D2000;omega) (fun e=>by have:=f.st e;omega));have HR:=hid h;have HQ:=hid hr;clear h hl hln hr hcap
 go_enter func17,ntmps17
 go_wp2_with fail;obtain⟨w0,hw0⟩:∃w0,w.alloc (.cells (inC A n cap c S m cS AP P cP AD D cD) 29)=w0:=⟨_,rfl⟩;obtain⟨hB,hI⟩:=HG.out _ hw0;rw[hw0];clear hw0 HG;have HB:=hid hB;have HI:=hid hI;((with_reducible refine(HF.out _ (HQ.out.below hB) (HR.out.below hB)).mono ?_);rintro e w1 ⟨b,rfl,hbt,hb1⟩);have HB1:=hid (bT0 HB.out hb1);have HI1:=hid (HI.out.kept hb1);have HBT:=hid hbt;clear hB hI hbt hb1 HB HI
 cases b
 ·go_wp2_with fail;go_ret;exact⟨false,rfl,fun e=>by simp at e,HB1.out⟩
 ·have hf:=HBT.out (by trivial);have HFT:=hid hf.1;have HFG:=hid hf.2;clear hf HBT;have k:=HI1.out;obtain⟨c0,c1,c2,c3,c4,c5,c6,c7,c8,c9,c10,c11,c12,c13,c14⟩:=cl15 k;have lc:=k.lt;clear k;go_wp2_with fail;clear c0 c1 c2 c3 c4 c5 c6 c7 c8 c9 c10 c11 c12 c13 c14 lc;((with_reducible refine(HIN.out w1 (HQ.out.below HB1.out) (HR.out.below HB1.out) HFT.out).mono ?_);rintro e w2 ⟨cd,rfl,hcd,hb2⟩);have HB2:=hid (bT0 HB1.out hb2);have HI2:=hid (HI1.out.kept hb2);have HCD:=hid hcd;clear hcd hb2
  by_cases h0:cd=0
  ·subst h0;have HOK:=hid (HCD.out.1 rfl);clear HCD
   by_cases f0:no<=300
   ·have g0:decide ((no:Int)<=300)=true:=YaJ (by omega);clear f0;go_wp2_with fail;go_ret;exact⟨_,rfl,fun _=>⟨HFT.out,HOK.out,(HFG.out HOK.out).1,(HFG.out HOK.out).2.1,(HFG.out HOK.out).2.2.1,(HFG.out HOK.out).2.2.2⟩,HB2.out⟩
   ·have g0:decide ((no:Int)<=300)=false:=YaI (by omega);clear f0;go_wp2_with fail;go_ret;exact⟨_,rfl,fun e=>by simp at e,HB2.out⟩
  ·have e5:(cd==0)=false:=by simp[h0]
   clear HCD;go_wp2_with fail;go_ret;exact⟨_,rfl,fun e=>by simp at e,HB2.out⟩
end
