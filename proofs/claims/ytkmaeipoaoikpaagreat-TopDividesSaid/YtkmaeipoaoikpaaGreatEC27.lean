/- Lemmas. -/
import Derived.Test.YtkmaeipoaoikpaaGreatEC26
namespace Go.Proofs.YtkmaeipoaoikpaaGreat
set_option linter.all false
set_option maxRecDepth 100000
set_option maxHeartbeats 8000000
open Lib (hid)
open Go.RowKit
open Tryz
def Zly(I:InC)(x t a:Nat):List Int:=(List.range a).flatMap fun(b:Nat)=>ZpD (I.mc x) (t:Int) (b:Int)
def zS(I:InC)(P:List Int)(t x i:Nat):Int:=(ZcG (I.mc x) P (Zas I.P) (Zly I x t (I.mc 0).pc.mi)).getD i 0
section
variable{I:InC}{F:Nat→Cr}{t:Nat}{p μ:Nat→Int}{rcd:List (List Int×List Int)}
theorem Zpw(x t a:Nat):Zly I x t (a+1)=Zly I x t a++ZpD (I.mc x) (t:Int) (a:Int):=by unfold Zly;rw[List.range_succ,List.flatMap_append];simp
theorem ZdP(x:Nat):∀a,(Zgw I t ((List.range a).map (fun a=>((1,0,a,0):Sl4))) F x).G=ZcG (I.mc x) (F x).P (F x).G (Zly I x t a)/\(Zgw I t ((List.range a).map (fun a=>((1,0,a,0):Sl4))) F x).P=(F x).P/\(Zgw I t ((List.range a).map (fun a=>((1,0,a,0):Sl4))) F x).M=(F x).M/\(Zgw I t ((List.range a).map (fun a=>((1,0,a,0):Sl4))) F x).rcd=(F x).rcd
 |0=>⟨rfl,rfl,rfl,rfl⟩
 |a+1=>by
  obtain⟨h1,h2,h3,h4⟩:=ZdP x a;rw[List.range_succ,List.map_append,Zbx]
  show (stp I t (1,0,a,0) _ x).G=_/\(stp I t (1,0,a,0) _ x).P=_/\(stp I t (1,0,a,0) _ x).M=_/\(stp I t (1,0,a,0) _ x).rcd=_
  unfold stp;rw[if_neg (by show ¬(1:Nat)=3;decide),if_neg (by show ¬(1:Nat)=4;decide)];unfold ZaW Zb6;rw[if_pos (by show ((1:Nat):Int)=1;rfl)];refine⟨?_,h2,h3,h4⟩;rw[Zpw,Znc,<-h1,<-h2];rfl
theorem ZjX(l:List Int):l=ZaN (fun i=>l.getD i 0) l.length:=by
 apply List.ext_getElem?
 intro i;unfold ZaN
 by_cases hi:i<l.length
 ·rw[YaR,List.getElem?_range hi,YaA hi];simp[YaT,hi]
 ·rw[YaN (by omega),YaN (by simp;omega)]
structure Us(I:InC)(F:Nat->Cr)(p μ:Nat->Int)(rcd:List (List Int×List Int)):Prop where
 G:∀x,x<I.rg.n->(F x).G=Zas I.P
 P:∀x,x<I.rg.n->(F x).P=ZaN p I.P
 M:∀x,x<I.rg.n->(F x).M=ZaN μ I.P
 rcd:∀x,x<I.rg.n->(F x).rcd=rcd
theorem Zt7(z:Nat->Nat->Int)(x:Nat):rvK I z (kD I 0) x=z x:=by
 funext i
 unfold rvK kD
 split
 ·rw[if_neg (by omega)];rfl
 ·rfl
theorem ZbL(n:Nat):(Zas n).length=n:=by simp[Zas]
theorem Us.start(h:Us I F p μ rcd):Vd I (Zgw I t ((List.range (I.mc 0).pc.mi).map (fun a=>((1,0,a,0):Sl4))) F) (zS I (ZaN p I.P) t) p μ rcd 0:=by
 have e0:pD I p μ (Zh2 I (zS I (ZaN p I.P) t)) (bD 0)=p:=by
  funext i
  unfold pD bD;rw[if_neg (by simp)]
 have e1:mD I μ (Zh2 I (zS I (ZaN p I.P) t)) (bD 0)=μ:=by
  funext i
  unfold mD bD;rw[if_neg (by simp)]
 unfold Vd;rw[e0,e1];refine⟨fun x hx=>?_,fun x hx=>?_,fun x hx=>?_,fun x hx=>?_⟩
 ·rw[(ZdP x _).1,h.P x hx,h.G x hx,Zt7];have:=ZjX (ZcG (I.mc x) (ZaN p I.P) (Zas I.P) (Zly I x t (I.mc 0).pc.mi));rw[Zct,ZbL] at this;exact this
 ·rw[(ZdP x _).2.1];exact h.P x hx
 ·rw[(ZdP x _).2.2.1];exact h.M x hx
 ·rw[(ZdP x _).2.2.2];exact h.rcd x hx
theorem Zx6(P:List Int)(t:Nat):ZxE (zS I P t):=fun w i=>by
 have hz:Zaw (Zas I.P):=by
  intro x hx;obtain rfl:=List.eq_of_mem_replicate hx;exact⟨by decide,by decide⟩
 exact getD_in (Znb (K:=I.mc w) (P:=P) hz _) i
theorem Us.step(hO:I.Ok)(h:Us I F p μ rcd):∃p' μ':Nat->Int,Us I (Zgw I t ((I.mc 0).pc.stepS 60) F) p' μ' (rcd++[(ZaN p' I.P,ZaN μ' I.P)]) /\
  ∀i,i<I.P->μ' i=Zfy I.c.mo I.c.sh (μ i) (Zh2 I (zS I (ZaN p I.P) t) i)/\p' i=Zkp I.c.ra I.c.sh (p i) (μ' i):=by
 have hok:=InC.pc_ok hO;have h1:=Vd.groups (t:=t) hO (Zx6 (ZaN p I.P) t) (I.mc 0).pc.grps (d:=0) (Zpm hok) (Int.le_refl _) (h.start (t:=t));rw[Int.toNat_natCast] at h1;refine⟨pD I p μ (Zh2 I (zS I (ZaN p I.P) t)) (bD (I.mc 0).pc.nb),mD I μ (Zh2 I (zS I (ZaN p I.P) t)) (bD (I.mc 0).pc.nb),?_,fun i hi=>?_⟩
 ·unfold PlC.stepS;rw[Zbx,Zbx];have e:∀(F':Nat->Cr) x,Zgw I t [(6,0,0,0)] F' x=⟨(F' x).P,(F' x).M,Zas I.P,(F' x).rcd++[((F' x).P,(F' x).M)],(F' x).opn⟩:=fun F' x=>by
   show stp I t (6,0,0,0) F' x=_
   unfold stp;rw[if_neg (by show ¬(6:Nat)=3;decide),if_neg (by show ¬(6:Nat)=4;decide)];unfold ZaW Zb6;rw[if_neg (by show ¬((6:Nat):Int)=1;decide),if_neg (by show ¬((6:Nat):Int)=2;decide),if_neg (by show ¬((6:Nat):Int)=5;decide),if_pos (by show ((6:Nat):Int)=6;rfl)];rfl
  refine⟨fun x hx=>by rw[e],fun x hx=>by rw[e];exact h1.P x hx,fun x hx=>by rw[e];exact h1.M x hx,fun x hx=>?_⟩;rw[e];dsimp only;rw[h1.rcd x hx,h1.P x hx,h1.M x hx]
 ·have hj:=(ZrW hok (i:=i) (show i<(I.mc 0).pc.P from hi)).1;unfold pD mD bD;rw[YaJ hj,if_pos rfl,if_pos rfl];exact⟨rfl,rfl⟩
end
theorem Zhm(K:MC)(P:List Int)(j:Nat):∀a b:List Int,Zlx K P j (a++b)=Zlx K P j a+Zlx K P j b
 |[],b=>by simp[Zlx]
 |i::a,b=>by
  rw[List.cons_append,Zlx,Zlx,Zhm K P j a b];omega
theorem ZiP{l:List Int}{K:Nat}(hK:1<=K):(List.range K).flatMap (fun(b:Nat)=>ZaV l (b:Int) (K:Int))=l:=by
 have:∀a,a<=K->(List.range a).flatMap (fun(b:Nat)=>ZaV l (b:Int) (K:Int))=Ztw l K a:=by
  intro a
  induction a with
  |zero=>intro _;rw[Zrj];rfl
  |succ a ih=>
   intro h;rw[List.range_succ,List.flatMap_append,ih (by omega),Zrk (by omega)];simp
 rw[this K (YaF _),Ztx hK]
theorem Zhn(K:MC)(P:List Int)(j:Nat){l:List Int}{m:Nat}:∀a,Zez (fun(v:Nat)=>Zlx K P j (ZaV l (v:Int) (m:Int))) a=Zlx K P j ((List.range a).flatMap (fun(b:Nat)=>ZaV l (b:Int) (m:Int)))
 |0=>rfl
 |a+1=>by
  rw[Zez,Zhn K P j a,List.range_succ,List.flatMap_append,Zhm];simp
theorem Zlz(g:Nat->Int):∀m,wrap64 (Zez (fun v=>wrap64 (g v)) m)=wrap64 (Zez g m)
 |0=>rfl
 |m+1=>by
  rw[Zez,Zez];have h:=Zlz g m;have h1:=ZjN (Zez (fun v=>wrap64 (g v)) m) (g m);have h2:=ZjN (g m) (Zez (fun v=>wrap64 (g v)) m);have h3:=ZjN (g m) (Zez g m);rw[h1,Int.add_comm,<-h2,h,h3,Int.add_comm]
theorem Zsj(I:InC)(x:Nat)(P:List Int)(j:Nat):∀l,Zlx (I.mc x) P j l=Zlx (I.mc 0) P j l
 |[]=>rfl
 |i::l=>by
  rw[Zlx,Zlx,Zsj I x P j l];rfl
def InC.bat(I:InC)(t:Nat):List Int:=Za9 I.L I.m I.c.ba.toNat (I.m/I.c.ba.toNat) I.c.st.toNat (t:Int)
theorem ZlA{I:InC}(hO:I.Ok)(P:List Int)(t:Nat){i:Nat}(hi:i<I.P):Zh2 I (zS I P t) i=(ZcG (I.mc 0) P (Zas I.P) (I.bat t)).getD i 0:=by
 have hok:=InC.pc_ok hO;have hz:Zaw (Zas I.P):=by
  intro x hx;obtain rfl:=List.eq_of_mem_replicate hx;exact⟨by decide,by decide⟩
 have hzz:(Zas I.P).getD i 0=0:=by unfold Zas;simp[YaT,hi]
 have hg:∀v,zS I P t v i=wrap64 (Zlx (I.mc 0) P i (ZaV (I.bat t) (v:Int) ((I.mc 0).pc.m:Int))):=fun v=>by
  unfold zS;rw[Zhl (K:=I.mc v) (show i<(I.mc v).NP from hi) (Zly I v t (I.mc 0).pc.mi) (Zas I.P) (ZbL _) hz,hzz,Int.zero_add,Zsj];have:Zly I v t (I.mc 0).pc.mi=ZaV (I.bat t) (v:Int) ((I.mc 0).pc.m:Int):=ZiP (l:=ZaV (I.bat t) (v:Int) ((I.mc 0).pc.m:Int)) hok.i1;rw[this]
 unfold Zh2;rw[Zd1 _ _ _ (fun v _=>hg v),Zlz,Zhn,ZiP hok.m1,Zhl (K:=I.mc 0) (show i<(I.mc 0).NP from hi) (I.bat t) (Zas I.P) (ZbL _) hz,hzz,Int.zero_add]
def trS(I:InC):Nat->List Int×List Int
 |0=>(I.P0,Zas I.P)
 |t+1=>(Za8 I.c.ra I.c.mo I.c.sh (trS I t).1 (trS I t).2 (ZcG (I.mc 0) (trS I t).1 (Zas I.P) (I.bat t)) 0 I.P,Za7 I.c.mo I.c.sh (trS I t).2 (ZcG (I.mc 0) (trS I t).1 (Zas I.P) (I.bat t)) 0 I.P)
theorem Zho(f g:Nat->Int)(n:Nat)(h:∀i,i<n->f i=g i):ZaN f n=ZaN g n:=by
 unfold ZaN
 apply List.map_congr_left
 intro i hi;exact h i (List.mem_range.1 hi)
theorem Zxp{I:InC}(hO:I.Ok)(hP:I.P0.length=I.P):∀t,∃p μ:Nat->Int,Us I (I.rg.sy (t*(I.mc 0).pc.sl)) p μ ((List.range (t+1)).map (trS I))/\ZaN p I.P=(trS I t).1/\ZaN μ I.P=(trS I t).2
 |0=>by
  have e1:ZaN (fun i=>I.P0.getD i 0) I.P=I.P0:=by
   have:=ZjX I.P0;rw[hP] at this;exact this.symm
  have e2:ZaN (fun i=>(Zas I.P).getD i 0) I.P=Zas I.P:=by
   have:=ZjX (Zas I.P);rw[ZbL] at this;exact this.symm
  refine⟨fun i=>I.P0.getD i 0,fun i=>(Zas I.P).getD i 0,⟨fun x hx=>?_,fun x hx=>?_,fun x hx=>?_,fun x hx=>?_⟩,e1,e2⟩
  ·rw[Nat.zero_mul];rfl
  ·rw[Nat.zero_mul,e1];rfl
  ·rw[Nat.zero_mul,e2];rfl
  ·rw[Nat.zero_mul];rfl
 |t+1=>by
  obtain⟨p,μ,h,h1,h2⟩:=Zxp hO hP t;obtain⟨p',μ',h',he⟩:=h.step (t:=t) hO;have e2:ZaN μ' I.P=(trS I (t+1)).2:=by
   rw[trS,<-h1,<-h2,ZiJ];refine Zho _ _ _ (fun i hi=>?_);rw[if_pos ⟨Nat.zero_le _,by omega⟩,Nat.sub_zero,(he i hi).1,ZlA hO _ _ hi]
  have e1:ZaN p' I.P=(trS I (t+1)).1:=by
   rw[trS,<-h1,<-h2,ZiI];refine Zho _ _ _ (fun i hi=>?_);rw[if_pos ⟨Nat.zero_le _,by omega⟩,Nat.sub_zero,(he i hi).2,(he i hi).1,ZlA hO _ _ hi]
  have e:=fun x (hx:x<I.rg.n)=>ZvD hO t hx
  refine⟨p',μ',⟨fun x hx=>by rw[e x hx];exact h'.G x hx,fun x hx=>by rw[e x hx];exact h'.P x hx,fun x hx=>by rw[e x hx];exact h'.M x hx,fun x hx=>?_⟩,e1,e2⟩;rw[e x hx,h'.rcd x hx,e1,e2,List.range_succ (n:=t+1),List.map_append];rfl
theorem Zv3{I:InC}(hO:I.Ok)(hP:I.P0.length=I.P){s:WS}(h:At I (fun _=>I.rg.N) s){x:Nat}{m:MS}(hm:s.mss[x]?=some m):m.rcd=(List.range (I.c.st.toNat+1)).map (trS I):=by
 obtain⟨p,μ,hU,_,_⟩:=Zxp hO hP I.c.st.toNat;have hx:x<I.rg.n:=by rw[<-h.ml];exact ZbJ hm
 have h1:=(h.m x m hm).cr;have h2:=hU.rcd x hx;have h3:(ZmS m).rcd=(I.rg.sy I.rg.N x).rcd:=by rw[h1]
 exact h3.trans h2
theorem Zt8{K K':MC}(h1:K'.l=K.l)(h2:K'.n=K.n)(h3:K'.NP=K.NP)(h4:K'.f=K.f)(h5:K'.c.sh=K.c.sh)(P:List Int)(i:Int):exG K' P i=exG K P i:=by
 unfold exG;rw[h1,h2,h4,h5]
theorem Zsk{K K':MC}(h1:K'.l=K.l)(h2:K'.n=K.n)(h3:K'.NP=K.NP)(h4:K'.f=K.f)(h5:K'.c.sh=K.c.sh)(P:List Int)(l:List Int):∀G,ZcG K' P G l=ZcG K P G l:=by
 induction l with
 |nil=>intro G;rfl
 |cons i l ih=>
  intro G;have e:∀K:MC,ZcG K P G (i::l)=ZcG K P (ZbM G 0 (exG K P i) K.NP) l:=fun K=>by unfold ZcG;rw[List.foldl_cons]
  rw[e,e,ih,Zt8 h1 h2 h3 h4 h5,h3]
theorem Zv4{I J:InC}(hl:J.l=I.l)(hn:J.n=I.n)(hP:J.P=I.P)(hf:J.f=I.f)(h0:J.P0=I.P0)(hL:J.L=I.L)(hm:J.m=I.m)(hsh:J.c.sh=I.c.sh)(hra:J.c.ra=I.c.ra)(hmo:J.c.mo=I.c.mo)(hba:J.c.ba=I.c.ba)(hst:J.c.st=I.c.st)(t:Nat):trS J t=trS I t:=by
 induction t with
 |zero=>rw[trS,trS,h0,hP]
 |succ t ih=>
  have hb:J.bat t=I.bat t:=by
   unfold InC.bat;rw[hL,hm,hba,hst]
  have ha:=fun P=>Zsk (K:=I.mc 0) (K':=J.mc 0) hl hn hP hf hsh P (I.bat t) (Zas I.P)
  rw[trS,trS,ih,hb,hP,ha,hra,hmo,hsh]
section
variable{c:PlC}
theorem Zsl(x:Nat)(t:Int)(hx:x<c.m):(c.itemsI x t).length=c.lenI (x:Int):=by
 rw[<-c.rItemsI_length (x:Int) t,c.rItemsI_in (x:Int) t ⟨by omega,by omega⟩]
theorem ZuA(h:c.Ok)(x:Nat)(hx:x<c.m):∀t,c.cn x (t*c.sl)=t*c.lenI (x:Int)
 |0=>by rw[Nat.zero_mul,Nat.zero_mul];rfl
 |t+1=>by
  rw[Nat.add_mul,Nat.one_mul,ZjJ x t c.sl (YaF _),ZuA h x hx t,Zrv h x t hx,Zsl x _ hx,Nat.add_mul,Nat.one_mul]
theorem Zoj(a:Nat)(f:Nat->Nat):∀n,Zek (fun x=>a*f x) n=a*Zek f n
 |0=>rfl
 |n+1=>by rw[Zek,Zek,Zoj a f n,Nat.mul_add]
theorem ZlB:∀n,Zek (fun x=>c.lenI (x:Int)) n=c.sumI n
 |0=>rfl
 |n+1=>by rw[Zek,ZlB n];rfl
end
section
variable{I:InC}
theorem Zsm(hO:I.Ok):I.tot=I.c.st.toNat*(I.mc 0).pc.sumI (I.mc 0).pc.m:=by
 unfold InC.tot;rw[<-ZlB,<-Zoj];exact Zd2 _ _ _ (fun y hy=>ZuA (InC.pc_ok hO) y hy _)
theorem Zv5(hO:I.Ok):((I.mc 0).pc.sumI (I.mc 0).pc.m:Int)*I.c.st=(I.tot:Int):=by
 have h:=hO.nums.st;rw[Zsm hO,Int.natCast_mul,Int.mul_comm,Int.toNat_of_nonneg h.1]
theorem Zx7(hO:I.Ok)(hP:I.P0.length=I.P)(h:I.tot<=100000):Sm I:=by
 refine⟨fun x hx=>YaH ?_ h,hP⟩;have:∀(f:Nat->Nat) n x,x<n->f x<=Zek f n:=by
  intro f n
  induction n with
  |zero=>intro x hx;omega
  |succ n ih=>
   intro x hx;rw[Zek]
   by_cases e:x=n
   ·rw[e];omega
   ·have:=ih x (by omega);omega
 exact this (fun x=>(I.mc 0).pc.cn x I.rg.N) _ x hx
theorem Zt9(hO:I.Ok):(I.rg.n:Int)=I.c.wk:=by
 have h:=hO.nums.wk
 show (I.c.wk.toNat:Int)=_
 omega
theorem ZuB(hO:I.Ok):I.tot<=12*(8*200000000):=by
 rw[Zsm hO];have h1:=PlC.sumI_le (InC.pc_ok hO) (I.mc 0).pc.m;have h2:=(InC.pc_ok hO).m2;have h3:=hO.st;refine Nat.mul_le_mul (by omega) (YaH h1 (YaW _ h2))
def InC.div(I:InC)(wk mi bu ch wi ca:Int):InC:={ I with c:=⟨I.c.sh,I.c.ra,I.c.mo,wk,I.c.ba,mi,I.c.st,bu,ch,wi,ca⟩ }
theorem Zxq(hO:I.Ok){wk mi bu ch wi ca:Int}(h1:1<=wk/\wk<=8/\wk<=I.c.ba)(h2:1<=mi/\mi<=20)(h3:1<=bu/\bu<=1048576)(h4:1<=ch/\ch<=1048576)(h5:1<=wi/\wi<=1048576)(h6:1<=ca/\ca<=1048576):(I.div wk mi bu ch wi ca).Ok:=by
 have N:=hO.nums;have hok:Zht I.l (I.div wk mi bu ch wi ca).c (Zgd I.N I.M I.es) I.m I.P I.D=true:=by
  have h0:=hO.ok;unfold Zht at h0 ⊢;simp only[YaQ] at h0 ⊢;obtain⟨g1,g2,g3,g4,g5⟩:=h0;refine⟨?_,g2,g3,g4,g5⟩;simp only[ZaO,YaQ,ZfB,Zjf];exact⟨⟨h1.1,by show wk<=64;omega⟩,N.sh,N.sz,⟨h2.1,by show mi<=1048576;omega⟩,h3,h4,h5,h6,N.st,⟨h1.2.2,N.bw.2⟩⟩
 exact⟨hok,hO.hl,hO.el,hO.dl,hO.hN,hO.hM,hO.fl,hO.fi,hO.m60,hO.st,hO.P60,h1.2.1,h2.2,hO.D4,hO.lu,hO.pi,hO.ra,hO.mo⟩
theorem Zxr{w:World}(h:ZmG w I)(wk mi bu ch wi ca:Int):ZmG w (I.div wk mi bu ch wi ca):=
 ⟨h.hl,h.rl,h.cap,h.el,h.re,h.rs,h.pl,h.rp,h.dl,h.rd⟩
theorem Zxs(wk mi bu ch wi ca:Int)(t:Nat):trS (I.div wk mi bu ch wi ca) t=trS I t:=
 Zv4 (I:=I) (J:=I.div wk mi bu ch wi ca) rfl rfl rfl rfl rfl rfl rfl rfl rfl rfl rfl rfl t
end
def Wd(S:Nat->Prop)(w:World)(xb:Nat)(I:InC)(s:WS):Prop:=∃own mbs lbs AW cW AL cL,Zao own w xb I mbs lbs s.mss s.lss AW cW AL cL s.cnt/\mbs.length=I.rg.n/\lbs.length=I.rg.n/\(∀j,own j≠0->S j)
section
variable{S T:Nat→Prop}{w w':World}{xb:Nat}{I:InC}{s:WS}
theorem Wd.mono(h:Wd S w xb I s)(hST:∀i,i<w.heap.size->S i->T i):Wd T w xb I s:=by
 obtain⟨own,mbs,lbs,AW,cW,AL,cL,hW,hm,hl,ho⟩:=h;refine⟨fun j=>if j<w.heap.size then own j else 0,mbs,lbs,AW,cW,AL,cL,hW.below (bR0 _ _) (fun i hi=>if_pos hi),hm,hl,fun j hj=>?_⟩;dsimp only at hj
 split at hj
 ·rename_i hlt
  exact hST j hlt (ho j hj)
 ·exact absurd rfl hj
theorem Wd.but(h:Wd S w xb I s)(hb:But T w w')(hST:∀i,S i->¬T i):Wd S w' xb I s:=by
 obtain⟨own,mbs,lbs,AW,cW,AL,cL,hW,hm,hl,ho⟩:=h;exact⟨own,mbs,lbs,AW,cW,AL,cL,hW.step hb.size (fun i hi h1=>hb.block i hi (hST i (ho i (by omega)))) (fun _ _=>rfl),hm,hl,ho⟩
theorem Wd.below(h:Wd S w xb I s)(hb:Below w.heap.size w w'):Wd S w' xb I s:=
 h.but (T:=fun _=>False) (But.of_below _ hb) (fun _ _ h=>h)
end
theorem ZuC(I:InC)(w:World)(hI:ZmG w I)(hO:I.Ok) :
  Calls prog 12 #[inV I.A I.n I.cap I.c I.S I.m I.cS I.AP I.P I.cP I.AD I.D I.cD] w fun e w'=>∃xb,e=.returned (.tuple #[.pointer (some ⟨xb,0,none⟩),.int .i64 0])/\Wd (fun i=>w.heap.size<=i/\i<w'.heap.size) w' xb I (Zbm I I.rg.n)/\Bz0 w w':=by
 refine(Zf4 I w hI hO).mono ?_;rintro e w' ⟨xb,rfl,⟨own,mbs,lbs,AW,cW,AL,cL,hW,hm,hl,ho⟩,hb⟩;have h:Wd (fun i=>w.heap.size<=i) w' xb I (Zbm I I.rg.n):=⟨own,mbs,lbs,AW,cW,AL,cL,hW,hm,hl,ho⟩;exact⟨xb,rfl,h.mono (fun i hi h=>⟨h,hi⟩),hb⟩
theorem ZlC{S:Nat->Prop}{w:World}{xb:Nat}{I:InC}(h:Wd S w xb I (Zbm I I.rg.n))(hO:I.Ok)(hP:I.P0.length=I.P)(most:Nat)(hm:most=I.tot*I.rg.n)(hm3:most<=3000) :
  Calls prog 19 #[.pointer (some ⟨xb,0,none⟩),.int .i64 most] w fun e w'=>∃N:Nat,e=.returned (.tuple #[.int .i64 N,.bool true])/\(∃s',Wd (fun i=>S i\/(w.heap.size<=i/\i<w'.heap.size)) w' xb I s'/\At I (fun _=>I.rg.N) s')/\But S w w':=by
 obtain⟨own,mbs,lbs,AW,cW,AL,cL,hW,hml,hl,ho⟩:=h;have hn1:=(Zd7 (InC.pc_ok hO)).n1;have h3:I.tot<=most:=by rw[hm];exact Nat.le_mul_of_pos_right _ hn1
 refine(Zpk hW hO (Zx7 hO hP (by omega)) (Zt9 hO) hml hl most hm (by omega)).mono ?_;rintro e w' ⟨N,rfl,own',s',hR,hA⟩;refine⟨N,rfl,⟨s',Wd.mono (S:=fun i=>S i\/w.heap.size<=i) ⟨own',mbs,lbs,AW,cW,AL,cL,hR.wld,hml,hl,fun j hj=>?_⟩ (fun i hi h=>?_),hA⟩,hR.but.mono (fun i _ hi=>ho i hi)⟩
 ·rcases hR.new j hj with h1|h1
  ·exact .inl (ho j h1)
  ·exact .inr h1
 ·rcases h with h|h
  ·exact .inl h
  ·exact .inr ⟨h,hi⟩
def trF(I:InC)(i:Nat):List Int×List Int:=trS I (i-1)
theorem ZeD(I:InC)(hP:I.P0.length=I.P):∀t,(trS I t).1.length=I.P/\(trS I t).2.length=I.P
 |0=>⟨hP,ZbL _⟩
 |t+1=>by
  rw[trS,Zce,Zcd];exact⟨(ZeD I hP t).1,(ZeD I hP t).2⟩
theorem Zsn(I:InC)(n:Nat){i:Nat}(hi:i<n):Zj0 ((List.range n).map (trS I)) (i+1)=trF I (i+1):=by
 unfold Zj0 trF;rw[Nat.add_sub_cancel,YaT,YaR,List.getElem?_range hi];rfl
theorem Zv6{S:Nat->Prop}{w:World}{xb:Nat}{I:InC}{s:WS}(h:Wd S w xb I s)(hO:I.Ok)(hP:I.P0.length=I.P)(hA:At I (fun _=>I.rg.N) s)(x:Nat)(hx:x<I.rg.n)(n:Nat)(hn:n=I.c.st.toNat+1) :
  Calls prog 32 #[.pointer (some ⟨xb,0,none⟩),.int .i64 x] w fun e w'=>∃A c l,l.length=n/\e=.returned (.slice A n c)/\w'.ownsRow w.heap.size 92 2 (.slice A n c) n (stv I.P I.P l)/\ZcX w' w.heap.size I.P I.P l (trF I)/\Bz0 w w':=by
 obtain⟨own,mbs,lbs,AW,cW,AL,cL,hW,hml,hl,ho⟩:=h;have hn8:I.rg.n<=8:=(InC.pc_ok hO).m2;obtain⟨m,hm⟩:=Zb0 (l:=s.mss) (x:=x) (by rw[hA.ml];exact hx);have hr:=Zv3 hO hP hA hm;rw[<-hn] at hr;have hlen:m.rcd.length=n:=by rw[hr];simp
 refine(Zfd hW hO I.rg.n x m hml hl hx (by omega) (by have:=Zt9 hO;omega) hm (fun i hi=>?_)).mono ?_
 ·rw[hlen] at hi;rw[hr,Zsn I n hi];exact ZeD I hP _
 ·rintro e w' ⟨A,c,l,hll,rfl,hown,hos,hb⟩;rw[hlen] at hll hown;refine⟨A,c,l,hll,by rw[hlen],hown,fun i s' hs'=>?_,hb⟩;have hi:i<n:=by rw[<-hll];exact ZbJ hs'
  have:=hos i s' hs';rw[hr,Zsn I n hi] at this;exact this
theorem Zpx(A:Option Addr)(n cap:Nat)(c:Cfg)(w:World):Calls prog 74 #[Zsq A n cap c] w fun e w'=>e=.returned (.agg #[.int .i64 c.ra,.int .i64 c.mo,.int .i64 c.sh])/\Bz0 w w':=by
 go_enter func74,ntmps74
 go_wp2_with fail
 (try simp only[Exit.inBlock,Exit.then])
 refine bodyPost_ret (results_cell_row rfl _ _ (w.heap.size+1) _ _ (0,0) _ rfl (Blk.new' _ _ (by simp)) underlying180 rfl (by kernel_rfl)) rfl ?_;exact⟨rfl,(bA0 _).alloc (by simp) _⟩
theorem Zj1.stay{t u:TypeId}{w w':World}{base n:Nat}{Ao:Option Addr}{E co:Nat}{os:List (List Int)}(h:Zj1 w base n Ao E co os)(hs:ZcA t u w w')(hz:w.heap.size<=w'.heap.size)(h1:22≠t/\22≠u)(h2:3≠t/\3≠u):Zj1 w' base n Ao E co os:=by
 obtain⟨vs,ho,hn⟩:=h.ex;exact⟨vs,hs.own hz ho h1.1 h1.2,⟨hn.len,fun i s l a b=>⟨(hn.row i s l a b).1,hs.own hz (hn.row i s l a b).2 h2.1 h2.2⟩⟩⟩
theorem Zv7{w:World}{g base:Nat}{e:TypeId}{x y:Value}(h:Blk w g e #[x,y])(hb:base<=g):w.ownsRow base e 2 (.slice (some ⟨g,0,none⟩) 1 1) 1 [x,y]:=
 ⟨rfl,.inr ⟨g,1,_,rfl,hb,h,YaF _,by decide,rfl,rfl⟩⟩
def Zyt(base P:Nat)(x0:StS)(f:Nat->List Int×List Int)(t:Nat)(v:Value)(w:World):Prop:=
 ∃(l:List StS) (x:StS) (A:Option Addr) (c k:Nat),l.length=t/\k=t+1/\v=.slice A k c/\w.ownsRow (base+1) 176 2 (.slice A k c) k (stv P P (x0::l))/\ZcX w base P P l f/\Blk w base 176 #[.slice x.1 P x.2.1,.slice x.2.2.1 P x.2.2.2]/\(t=0/\x=x0\/0<t/\l[t-1]?=some x)
abbrev KT(base:Nat)(w w':World):Prop:=ZcA 176 176 w w'/\Below base w w'
def TrV(P:Nat)(bt G:List Int)(j:Nat)(v:Value)(w:World):Prop:=
 (j=5->∃A c,v=.slice A bt.length c/\Rd w 1 A bt.length (iv bt))/\((j=6\/j=7)->∃A c,v=.tuple #[.slice A P c,.bool true]/\Rd w 1 A P (iv G))/\((j=8\/j=10)->∃A c,v=.slice A P c/\Rd w 1 A P (iv G))
theorem TrV.below{P:Nat}{bt G:List Int}{j:Nat}{v:Value}{w w':World}(h:TrV P bt G j v w)(hb:Below w.heap.size w w'):TrV P bt G j v w':=by
 obtain⟨h5,h6,h8⟩:=h;refine⟨fun e=>?_,fun e=>?_,fun e=>?_⟩
 ·obtain⟨A,c,a1,a2⟩:=h5 e;exact⟨A,c,a1,a2.below hb⟩
 ·obtain⟨A,c,a1,a2⟩:=h6 e;exact⟨A,c,a1,a2.below hb⟩
 ·obtain⟨A,c,a1,a2⟩:=h8 e;exact⟨A,c,a1,a2.below hb⟩
section
variable{P:Nat}{bt G:List Int}{w:World}
theorem TrV.v5{A:Option Addr}{c:Nat}(h:Rd w 1 A bt.length (iv bt)):TrV P bt G 5 (.slice A bt.length c) w:=⟨fun _=>⟨A,c,rfl,h⟩,fun e=>by omega,fun e=>by omega⟩
theorem TrV.v6{A:Option Addr}{c j:Nat}(hj:j=6\/j=7)(h:Rd w 1 A P (iv G)):TrV P bt G j (.tuple #[.slice A P c,.bool true]) w:=⟨fun e=>by omega,fun _=>⟨A,c,rfl,h⟩,fun e=>by omega⟩
theorem TrV.v8{A:Option Addr}{c j:Nat}(hj:j=8\/j=10)(h:Rd w 1 A P (iv G)):TrV P bt G j (.slice A P c) w:=⟨fun e=>by omega,fun e=>by omega,fun _=>⟨A,c,rfl,h⟩⟩
theorem TrV.v9{v:Value}{j:Nat}(hj:j=9\/j=11):TrV P bt G j v w:=⟨fun e=>by omega,fun e=>by omega,fun e=>by omega⟩
end
def NxV(P base:Nat)(c:Cfg)(sv:Value)(f:List Int×List Int)(j:Nat)(v:Value)(w:World):Prop:=
 (j=2->v=.agg #[.int .i64 c.ra,.int .i64 c.mo,.int .i64 c.sh])/\(j=3->v=sv) /\
 ((j=5\/j=6)->∃A1 c1 A2 c2,v=.tuple #[.agg #[.slice A1 P c1,.slice A2 P c2],.bool true]/\w.ownsRow base 2 1 (.slice A1 P c1) P (iv f.1)/\w.ownsRow base 2 1 (.slice A2 P c2) P (iv f.2)) /\
 (j=7->∃A1 c1 A2 c2,v=.agg #[.slice A1 P c1,.slice A2 P c2]/\w.ownsRow base 2 1 (.slice A1 P c1) P (iv f.1)/\w.ownsRow base 2 1 (.slice A2 P c2) P (iv f.2))
theorem NxV.move{P base:Nat}{c:Cfg}{sv:Value}{f:List Int×List Int}{j:Nat}{v:Value}{w w':World}(h:NxV P base c sv f j v w)(hr:∀A d l,w.ownsRow base 2 1 (.slice A P d) P (iv l)->w'.ownsRow base 2 1 (.slice A P d) P (iv l)):NxV P base c sv f j v w':=by
 obtain⟨h2,h3,h5,h7⟩:=h;refine⟨h2,h3,fun e=>?_,fun e=>?_⟩
 ·obtain⟨A1,c1,A2,c2,a1,a2,a3⟩:=h5 e;exact⟨A1,c1,A2,c2,a1,hr _ _ _ a2,hr _ _ _ a3⟩
 ·obtain⟨A1,c1,A2,c2,a1,a2,a3⟩:=h7 e;exact⟨A1,c1,A2,c2,a1,hr _ _ _ a2,hr _ _ _ a3⟩
section
variable{P base:Nat}{c:Cfg}{sv:Value}{f:List Int×List Int}{w:World}
theorem NxV.v2:NxV P base c sv f 2 (.agg #[.int .i64 c.ra,.int .i64 c.mo,.int .i64 c.sh]) w:=⟨fun _=>rfl,fun e=>by omega,fun e=>by omega,fun e=>by omega⟩
theorem NxV.v3:NxV P base c sv f 3 sv w:=⟨fun e=>by omega,fun _=>rfl,fun e=>by omega,fun e=>by omega⟩
theorem NxV.v5{A1 A2:Option Addr}{c1 c2 j:Nat}(hj:j=5\/j=6)(h1:w.ownsRow base 2 1 (.slice A1 P c1) P (iv f.1))(h2:w.ownsRow base 2 1 (.slice A2 P c2) P (iv f.2)):NxV P base c sv f j (.tuple #[.agg #[.slice A1 P c1,.slice A2 P c2],.bool true]) w:=⟨fun e=>by omega,fun e=>by omega,fun _=>⟨A1,c1,A2,c2,rfl,h1,h2⟩,fun e=>by omega⟩
theorem NxV.v7{A1 A2:Option Addr}{c1 c2:Nat}(h1:w.ownsRow base 2 1 (.slice A1 P c1) P (iv f.1))(h2:w.ownsRow base 2 1 (.slice A2 P c2) P (iv f.2)):NxV P base c sv f 7 (.agg #[.slice A1 P c1,.slice A2 P c2]) w:=⟨fun e=>by omega,fun e=>by omega,fun e=>by omega,fun _=>⟨A1,c1,A2,c2,rfl,h1,h2⟩⟩
theorem NxV.v8{v:Value}{j:Nat}(hj:j=8\/j=9):NxV P base c sv f j v w:=⟨fun e=>by omega,fun e=>by omega,fun e=>by omega,fun e=>by omega⟩
end
def NxB(W:World)(P base:Nat)(f:List Int×List Int)(X:World):Prop:=
 ∃A1 c1 A2 c2,But (fun i=>i=base) W X/\Blk X base 176 #[.slice A1 P c1,.slice A2 P c2]/\X.ownsRow base 2 1 (.slice A1 P c1) P (iv f.1)/\X.ownsRow base 2 1 (.slice A2 P c2) P (iv f.2)
theorem NxB.below{W X X':World}{P base:Nat}{f:List Int×List Int}(h:NxB W P base f X)(hb:Below X.heap.size X X'):NxB W P base f X':=by
 obtain⟨A1,c1,A2,c2,h1,h2,h3,h4⟩:=h;exact⟨A1,c1,A2,c2,h1.call hb,h2.kept hb,Zac h3 hb,Zac h4 hb⟩
theorem ZcA.of_but{t:TypeId}{b:Nat}{cs:Array Value}{w w':World}(h:But (fun i=>i=b) w w')(hb:Blk w b t cs):ZcA t t w w':=fun g e cs' h1 _ hg=>hg.but h (fun e1=>by
 subst e1;have:=hb.symm.trans hg;injection this with this
 injection this with _ ht
 exact h1 ht.symm)
theorem Zok(I:InC)(hP:I.P0.length=I.P)(t:Nat):trS I (t+1)=(Zgb I.c.ra I.c.mo I.c.sh (trS I t).1 (trS I t).2 (ZcG (I.mc 0) (trS I t).1 (Zas I.P) (I.bat t)),ZgI I.c.mo I.c.sh (trS I t).2 (ZcG (I.mc 0) (trS I t).1 (Zas I.P) (I.bat t))):=by
 unfold Zgb ZgI;rw[(ZeD I hP t).1,(ZeD I hP t).2];rfl
theorem Zso(I:InC)(hO:I.Ok)(hP:I.P0.length=I.P):∀t,Zaw (trS I t).1/\Zaw (trS I t).2
 |0=>⟨hO.pi,fun x hx=>by
  obtain rfl:=List.eq_of_mem_replicate (show x∈List.replicate I.P 0 from hx);exact⟨by decide,by decide⟩⟩
 |t+1=>by
  rw[Zok I hP];exact⟨ZsY _ _ _ _ _ _ (Zso I hO hP t).1,ZsZ _ _ _ _ (Zso I hO hP t).2⟩
theorem Zhp(I:InC)(w:World)(hO:I.Ok):Calls prog 18 #[Zt2 I] w fun e w'=>e=.returned (.int .i64 I.tot)/\Bz0 w w':=by
 have hK:=hO.mc (x:=0) (by have:=hO.nums.wk;omega);have HPL:=hid (fun W=>ZiL I.A I.n I.cap I.c I.S I.m I.cS I.AP I.P I.cP I.AD I.D I.cD W);have HT:Hid (∀W,Calls prog 69 #[ZnN I.A I.n I.cap I.c I.P] W fun e w'=>e=.returned (.int .i64 I.tot)/\Bz0 W w'):=hid (fun W=>by
  have h:=ZhX (I.mc 0).pc I.c I.A I.n I.cap I.P W hK.pcok hK.fits rfl
  rwa [Zv5 hO] at h)
 have HG:Hid (∀W,w.alloc (.cells (Zsa I) 29)=W->Below w.heap.size w W):=hid (by
  rintro W rfl;exact bA0 _)
 clear hK hO
 go_enter func18,ntmps18
 go_wp2_with fail;((with_reducible refine(HPL.out _).mono ?_);rintro e w1 ⟨rfl,hb1⟩);have HB0:=hid (HG.out _ rfl);have HB1:=hid (bT0 HB0.out hb1);clear hb1;go_wp2_with fail;((with_reducible refine(HT.out w1).mono ?_);rintro e w2 ⟨rfl,hb2⟩);have HB2:=hid (bT0 HB1.out hb2);clear hb2;go_wp2_with fail;go_ret;exact⟨rfl,HB2.out⟩
theorem ZuD:Sl prog 65 176 (.agg #[.slice none 0 0,.slice none 0 0]) 2 48:=⟨underlying65,by kernel_rfl,rfl,by omega⟩
theorem Zpy(A:Option Addr)(n c N:Nat)(l:List StS)(w:World)(hl:l.length=n)(hr:Rd w 2 A n (stv N N l))(hn:n<=1000) :
  Calls prog 76 #[.slice A n c] w fun e w'=>∃A' c',e=.returned (.slice A' n c')/\Rd w' 2 A' n (stv N N l)/\Bz0 w w':=by
 have HL:=hid hl;have HR:=hid hr;clear hl hr
 go_enter func76,ntmps76
 go_wp2_with fail
 go_loopw [3,8] (fun o v wr=>∃(i:Nat) (B:Option Addr) (d:Nat),i<=n/\o=.slice B i d/\v=.int .i64 i/\wr.ownsRow w.heap.size 176 2 (.slice B i d) i (stv N N (l.take i))/\Bz0 w wr) (fun _ v _=>n-(intOf v).toNat)
 case atStart=>exact⟨0,none,0,by omega,rfl,rfl,World.ownsRow_nil _ _ _ _,bR0 _ _⟩
 case round=>
  obtain⟨i,B,d,hi,rfl,rfl,hz,hb⟩:=hrel
  by_cases hlt:i<n
  ·obtain⟨⟨A1,c1,A2,c2⟩,hs4⟩:∃s,l[i]?=some s:=⟨_,YaA (by rw[HL.out];exact hlt)⟩;obtain⟨b5,o5,hA5,l5,q0,q1⟩:=ZgV (HR.out.below hb) hs4 hlt;dsimp only at q0 q1;have htk:l.take (i+1)=l.take i++[(A1,c1,A2,c2)]:=by
    rw[List.take_add_one,hs4];rfl
   have HZ:=hid hz;have HB:=hid hb;have HTK:=hid htk;have HLT:=hid hlt;have r1:(0:Int)<=(i:Int):=by omega
   have r2:(i:Int)<(n:Int):=by omega
   clear hz hb hs4 htk hlt;rw[hA5];clear hA5;go_wp2_with fail;have hw0:Below wr.heap.size wr (wr.alloc (.cells #[.slice A1 N c1,.slice A2 N c2] 92)):=bA0 _;obtain⟨w1,hw1⟩:∃w1,wr.alloc (.cells #[.slice A1 N c1,.slice A2 N c2] 92)=w1:=⟨_,rfl⟩;rw[hw1] at hw0 ⊢;have HB1:=hid (bT0 HB.out hw0);have HZ1:=hid (Zac HZ.out hw0);have HBK:=hid (Zpd A1 A2 N N c1 c2 w1);clear hw1 hw0;((with_reducible refine HBK.out.mono ?_);rintro e w2 ⟨rfl,hb2⟩);have HB2:=hid (bT0 HB1.out hb2);have HZ2:=hid (Zac HZ1.out hb2);clear hb2
   go_wp2_with (at_builtin;go_must (refine Zaj ZuD rfl _ _ rfl w.heap.size (.slice B i d) i (stv N N (l.take i)) rfl HZ2.out #[.slice A1 N c1,.slice A2 N c2] w2.heap.size rfl rfl rfl (ZdV _ _ _ _ _ _) (by unfold maxLen;omega) (by omega) HB2.out.size ?_);go_must (intro A' c' wa hown' hb' hgr' hat'))
   refine⟨⟨i+1,A',c',by have:=HLT.out;omega,rfl,rfl,?_,HB2.out.trans hb'⟩,?_⟩
   ·rw[HTK.out,ZdU];exact hown'
   ·have:=HLT.out;simp[intOf];omega
  ·obtain rfl:i=n:=by omega
   have r2:¬(i:Int)<(i:Int):=by omega
   have HZ:=hid hz;have HB:=hid hb;clear hz hb hlt;go_wp2_with fail;go_ret;refine⟨B,⟨d,rfl⟩,?_,HB.out⟩;have h:=Rd.of_own HZ.out
   rwa [YaX (by rw[HL.out];exact YaF _)] at h
theorem ZlD{S:Nat->Prop}{w:World}{xb:Nat}{J:InC}{s:WS}(h:Wd S w xb J s)(hO:J.Ok)(hP:J.P0.length=J.P)(hA:At J (fun _=>J.rg.N) s)(f:Nat->List Int×List Int)(hf:trF J=f)(N:Nat)(hN:J.P=N)(n:Nat)(hn:n=J.c.st.toNat+1)(AT:Option Addr)(cT:Nat)(l:List StS)(hl:l.length=n)(hrd:Rd w 2 AT n (stv N N l))(hrs:∀i s,l[i]?=some s->Rd w 1 s.1 N (iv (f (i+1)).1)/\Rd w 1 s.2.2.1 N (iv (f (i+1)).2))(wk:Nat)(hwk:J.rg.n=wk) :
  Calls prog 21 #[.pointer (some ⟨xb,0,none⟩),.int .i64 wk,.slice AT n cT] w fun e w'=>e=.returned (.bool true)/\Bz0 w w':=by
 have hst:=hO.st;have hn13:n<=13:=by omega
 have hN60:N<=60:=by rw[<-hN];exact hO.P60
 have hwk8:wk<=8:=by rw[<-hwk];exact(InC.pc_ok hO).m2
 have HT:Hid (∀x W,x<wk->Below w.heap.size w W->Calls prog 32 #[.pointer (some ⟨xb,0,none⟩),.int .i64 x] W fun e w'=>∃A c l,l.length=n/\e=.returned (.slice A n c)/\w'.ownsRow W.heap.size 92 2 (.slice A n c) n (stv N N l)/\ZcX w' W.heap.size N N l f/\Bz0 W w'):=hid (fun x W hx hb=>by
  have:=Zv6 (h.below hb) hO hP hA x (by omega) n hn;rw[hN,hf] at this;exact this)
 have HF:Hid (∀i,(f i).1.length=N/\(f i).2.length=N):=hid (fun i=>by rw[<-hf,<-hN];exact ZeD J hP _);have HL:=hid hl;have HRD:=hid hrd;have HRS:=hid hrs;clear h hO hP hA hf hN hn hl hrd hrs hwk hst
 go_enter func21,ntmps21
 go_wp2_with fail
 go_loopw [9] (fun v wr=>∃x:Nat,x<=wk/\v=.int .i64 x/\Bz0 w wr) (fun v _=>wk-(intOf v).toNat)
 case atStart=>exact⟨0,by omega,rfl,bR0 _ _⟩
 case round=>
  obtain⟨x,hx,rfl,hb⟩:=hrel
  by_cases hlt:x<wk
  ·have HB:=hid hb;have HLT:=hid hlt;have r2:(x:Int)<(wk:Int):=by omega
   clear hb hlt;go_wp2_with fail;((with_reducible refine(HT.out x wr HLT.out HB.out).mono ?_);rintro e w1 ⟨A1,c1,l1,hl1,rfl,ho1,hos1,hb1⟩);have HB1:=hid (bT0 HB.out hb1);have HL1:=hid hl1;have HO1:=hid (Rd.of_own ho1);have HS1:=hid hos1;clear hl1 ho1 hos1 hb1;go_wp2_with fail;((with_reducible refine(Zpy A1 n c1 N l1 w1 HL1.out HO1.out (by omega)).mono ?_);rintro e w2 ⟨A2,c2,rfl,hr2,hb2⟩);have HB2:=hid (bT0 HB1.out hb2);have HSA:=hid (ZmU A2 AT n c2 cT N N l1 l f w2 HL1.out HL.out (by omega) hr2 (HRD.out.below HB2.out) (fun i s hs=>⟨Rd.of_own ((HS1.out.below hb2) i s hs).1,Rd.of_own ((HS1.out.below hb2) i s hs).2⟩) (fun i s hs=>⟨(HRS.out i s hs).1.below HB2.out,(HRS.out i s hs).2.below HB2.out⟩) HF.out (by omega) (by omega));clear hr2 hb2;go_wp2_with fail;((with_reducible refine HSA.out.mono ?_);rintro e w3 ⟨rfl,hb3⟩);have HB3:=hid (bT0 HB2.out hb3);clear hb3;go_wp2_with fail;refine⟨⟨x+1,by have:=HLT.out;omega,rfl,HB3.out⟩,?_⟩;have:=HLT.out;simp[intOf];omega
  ·obtain rfl:x=wk:=by omega
   have HB:=hid hb;have r2:¬(x:Int)<(x:Int):=by omega
   clear hb hlt;go_wp2_with fail;go_ret;exact⟨rfl,HB.out⟩
theorem Znd(I:InC)(w:World)(hI:ZmG w I)(hO:I.Ok)(n:Nat)(hn:n=I.c.st.toNat+1) :
  Calls prog 20 #[Zt2 I] w fun e w'=>∃S cS l,l.length=n/\e=.returned (.tuple #[.slice S n cS,.int .i64 0])/\Rd w' 2 S n (stv I.P I.P l)/\(∀i s,l[i]?=some s->Rd w' 1 s.1 I.P (iv (trF I (i+1)).1)/\Rd w' 1 s.2.2.1 I.P (iv (trF I (i+1)).2))/\Bz0 w w':=by
 have hK:=hO.mc (x:=0) (by have:=hO.nums.wk;omega);have N:=hO.nums;have P60:=hO.P60;have m60:=hO.m60;have D4:=hO.D4;have st12:=hO.st;have hn16:I.n<=16:=hK.n16;have hsp:Zup I.m I.c.ba.toNat I.c.st.toNat (I.m/I.c.ba.toNat) (cnt I.c.st.toNat (I.m/I.c.ba.toNat)):=hK.smp;have hdr:cnt I.c.st.toNat (I.m/I.c.ba.toNat)*(I.m-1)<=I.L.length:=hK.dr;have HBT:Hid (∀t:Nat,(∀x∈I.bat t,0<=x/\x<(I.m:Int))/\(I.bat t).length<=60):=hid (fun t=>⟨Zuq hK (t:Int),YaH (ZkV _ _ _ _ _ _ hsp.hbn) m60⟩);have hbat:∀t:Nat,Za9 I.L I.m I.c.ba.toNat (I.m/I.c.ba.toNat) (I.c.st.toNat:Int) (t:Int)=I.bat t:=fun t=>rfl
 have HIN:=hid (fun W (i:ZmG W I)=>Zcw I.A I.n I.cap I.l I.c I.S I.m I.cS (Zgd I.N I.M I.es) I.AP I.P I.cP I.AD I.D I.cD W i.hl i.rl i.cap (by omega) (by rw[ZdG];exact i.el) (by rw[ZnP];exact i.re) (by omega) (by omega) (by omega) (fun _=>by omega));obtain⟨b,hb⟩:∃b,I.c.ba.toNat=b:=⟨_,rfl⟩;obtain⟨st,hst⟩:∃st,I.c.st.toNat=st:=⟨_,rfl⟩;have hcb:I.c.ba=(b:Int):=by have:=N.bw;have:=N.wk;omega
 have hcs:I.c.st=(st:Int):=by have:=N.st;omega
 rw[hb,hst] at hsp hdr hbat;rw[hst] at hn;obtain⟨q,hq⟩:∃q,I.m/b=q:=⟨_,rfl⟩;rw[hq] at hsp hdr hbat;obtain⟨E,hE⟩:∃E,cnt st q=E:=⟨_,rfl⟩;rw[hE] at hsp hdr;have st13:st<=12:=by omega
 have HS14:Hid (∀W,Below w.heap.size w W->Calls prog 28 #[Zt2 I] W (Zlw I.m b st E I.L W)):=hid (fun W bl=>Zpu I.A I.n I.cap I.c I.S I.m I.cS I.AP I.P I.cP I.AD I.D I.cD b st q E I.L W hcb hcs hsp.hb1 hsp.hbn m60 (by omega) hq hE (by omega) hI.dl (hI.rd.below bl) hO.lu (by rw[<-hI.dl];exact hdr));have HRB:Hid (∀(t:Nat) Ao co W,Zj1 W 0 I.m Ao E co (ZbW I.L I.m E)->Calls prog 27 #[Zsu I.m b st Ao E co,.int .i64 t] W (ZdD W (I.bat t).length (I.bat t))):=hid (fun t Ao co W r=>by
  have h:=Zli 0 b st q E I.m co Ao I.L W hsp (t:Int) r;rw[hbat] at h;exact h)
 have HGR:Hid (∀W Ap cp Ps X nI cX mic,Below w.heap.size w W->Ps.length=I.P->Zaw Ps->Rd W 1 Ap I.P (iv Ps)->mic.length=nI->nI<=1000->Rd W 1 X nI (iv mic)->(∀x∈mic,0<=x/\x<(I.m:Int))->Calls prog 26 #[Zt2 I,.slice Ap I.P cp,.slice X nI cX] W fun e w'=>∃A c,e=.returned (.tuple #[.slice A I.P c,.bool true])/\w'.ownsRow W.heap.size 2 1 (.slice A I.P c) I.P (iv (ZcG (I.mc 0) Ps (Zas I.P) mic))/\Bz0 W w'):=
  hid (fun W Ap cp Ps X nI cX mic bl h1 h2 h3 h4 h5 h6 h7=>ZjW I Ap cp Ps X nI cX mic W (hI.below bl) hO h1 h2 h3 h4 h5 h6 h7)
 have HLN:=hid (ZeD I hI.pl);have HAI:=hid (Zso I hO hI.pl);have HNT:=hid (Zok I hI.pl);have hra:=hO.ra;have hmo:=hO.mo;have HOK:=hid hO.ok;have HI:=hid hI;have HCS:=hid hcs;have HN:=hid hn;clear hK N hsp hdr hbat hb hst hcb hq hE hO hI hcs hn st12
 go_enter func20,ntmps20
 go_wp2_with fail;obtain⟨w0,hw0⟩:∃w0,w.alloc (.cells (Zsa I) 29)=w0:=⟨_,rfl⟩;obtain⟨gin,hgin⟩:∃g,w.heap.size=g:=⟨_,rfl⟩;have hb0:Below w.heap.size w w0:=by rw[<-hw0];exact bA0 _
 have hi0:Blk w0 gin 29 (Zsa I):=by rw[<-hw0];exact Blk.new' _ _ hgin
 have HGW:Hid (w.heap.size<=gin):=hid (Nat.le_of_eq hgin);have HB0:=hid hb0;have HI0:=hid hi0;rw[hw0,hgin];clear hw0 hgin hb0 hi0;((with_reducible refine(HIN.out w0 (HI.out.below HB0.out)).mono ?_);rintro e w1 ⟨cd,rfl,hcd,hb1⟩);obtain rfl:cd=0:=hcd.2 HOK.out;have HB1:=hid (bT0 HB0.out hb1);have HI1:=hid (HI0.out.kept hb1);have c13:=cv13 HI1.out;have cl:=HI1.out.lt;clear hcd hb1 HIN HI0;go_wp2_with fail;((with_reducible refine(ZhT I.AP I.P I.cP w1 (by omega)).mono ?_);rintro e w2 ⟨Z,cZ,rfl,hz,hb2⟩);have HB2:=hid (bT0 HB1.out hb2);have HI2:=hid (HI1.out.kept hb2);have HZ:=hid hz;clear c13 cl hz hb2 HI1;obtain⟨c0,c1,c2,c3,c4,c5,c6,c7,c8,c9,c10,c11,c12,c13,c14⟩:=cl15 HI2.out;have cl:=HI2.out.lt;go_wp2_with fail;obtain⟨w4,hw4⟩:∃w4,(w2.alloc (.cells #[.slice I.AP I.P I.cP,.slice Z I.P cZ] 176)).alloc (.cells #[.slice I.AP I.P I.cP,.slice Z I.P cZ] 176)=w4:=⟨_,rfl⟩;obtain⟨base,hbase⟩:∃g,w2.heap.size=g:=⟨_,rfl⟩;have hb4:Below w2.heap.size w2 w4:=by rw[<-hw4];exact(bA0 _).alloc (by simp) _
 have hx4:Blk w4 base 176 #[.slice I.AP I.P I.cP,.slice Z I.P cZ]:=by rw[<-hw4];exact(Blk.new' _ _ hbase).alloc _
 have hg4:Blk w4 (base+1) 176 #[.slice I.AP I.P I.cP,.slice Z I.P cZ]:=by rw[<-hw4];exact Blk.new' _ _ (by simp;exact hbase)
 have HBASE:Hid (w2.heap.size=base):=hid hbase;rw[hw4,hbase];rw[hbase] at hb4;have HB24:=hid hb4;have HB4:=hid (HB2.out.trans (hb4.mono (by have:=HB2.out.size;have:=HBASE.out;omega)));have HI4:=hid (HI2.out.kept (by rw[HBASE.out];exact HB24.out));have HX4:=hid hx4;have HG4:=hid hg4;clear hw4 hbase hb4 hx4 hg4;((with_reducible refine(HS14.out w4 HB4.out).mono ?_);rintro e w5 ⟨Ao,co,rfl,hrs,hb5⟩);have HRS5:=hid (hrs.lower (Nat.zero_le _));have HZB:Hid (base<=w4.heap.size):=hid (by have:=HX4.out.lt;omega);have HB5:=hid hb5;clear hrs hb5;go_wp2_with fail;obtain⟨w6,hw6⟩:∃w6,w5.alloc (.cells #[.int .i64 I.m,.int .i64 b,.int .i64 st,.slice Ao E co] 84)=w6:=⟨_,rfl⟩;obtain⟨sb,hsb⟩:∃g,w5.heap.size=g:=⟨_,rfl⟩;have hb6:Below w5.heap.size w5 w6:=by rw[<-hw6];exact bA0 _
 have hs6:Blk w6 sb 84 #[.int .i64 I.m,.int .i64 b,.int .i64 st,.slice Ao E co]:=by rw[<-hw6];exact Blk.new' _ _ hsb
 rw[hw6,hsb];have hb46:Below w4.heap.size w4 w6:=bT0 HB5.out hb6;have HB26:=hid (HB24.out.trans (hb46.mono HZB.out));have HI6:=hid (HI4.out.kept hb46);have HX6:=hid (HX4.out.kept hb46);have HG6:=hid (HG4.out.kept hb46);have HRS6:=hid (HRS5.out.below hb6);have HS6:=hid hs6;have HZ26:Hid (w2.heap.size<=base/\w.heap.size<=base):=hid ⟨by have:=HBASE.out;omega,by have:=HB2.out.size;have:=HBASE.out;omega⟩;have HGB:Hid (gin<base):=hid (by have:=HI2.out.lt;have:=HBASE.out;omega);clear hw6 hsb hb6 hs6 hb46 HI2 HI4 HX4 HG4 HRS5 HB24 HB5 HS14 HB4 HZB
 go_loopw [6,8] (fun v u wr=>∃t:Nat,t<=st/\u=.int .i64 t/\Zyt base I.P (I.AP,I.cP,Z,cZ) (trS I) t v wr/\KT base w6 wr) (fun _ u _=>st-(intOf u).toNat)
 case atStart=>exact⟨0,by omega,rfl,⟨[],(I.AP,I.cP,Z,cZ),some ⟨base+1,0,none⟩,1,1,rfl,rfl,rfl,Zv7 HG6.out (YaF _),fun i s h=>by simp at h,HX6.out,.inl ⟨rfl,rfl⟩⟩,ZcA.refl _ _ _,bR0 _ _⟩
 case round=>
  obtain⟨t,ht,rfl,⟨l,x,A6,d6,k,hl,hk,rfl,hown,hos,hbx,hx⟩,hs,hb⟩:=hrel;have hb2r:Below base w2 wr:=HB26.out.trans hb;have hbr:Below w.heap.size w wr:=HB2.out.trans (hb2r.mono HZ26.out.2);obtain⟨q1,q2⟩:=ZcX.rows (x0:=(I.AP,I.cP,Z,cZ)) hos hx (HI.out.rp.below hbr) (HZ.out.below (hb2r.mono HZ26.out.1));obtain⟨AA,cA,BB,cB⟩:=x;dsimp only at q1 q2 hbx;have hiw:Blk wr gin 29 (Zsa I):=hs _ _ _ (by decide) (by decide) HI6.out;have hsw:Blk wr sb 84 #[.int .i64 I.m,.int .i64 b,.int .i64 st,.slice Ao E co]:=hs _ _ _ (by decide) (by decide) HS6.out;have HRR:=hid (HRS6.out.stay hs hb.size (by decide) (by decide));have HIR:=hid hiw;have HSR:=hid hsw;have HBX:=hid hbx;have HQ1:=hid q1;have HQ2:=hid q2;have HOW:=hid hown;have HOS:=hid hos;have HL:=hid hl;have HK:=hid hk;have HST:=hid hs;have HBR:=hid hbr;have HBB:=hid hb;have HX:=hid hx;have hzb:base+1<=wr.heap.size:=hbx.lt;clear hb2r hiw hsw hbx q1 q2 hown hos hl hk hs hbr hb hx
  by_cases hlt:t<st
  ·have HLT:=hid hlt;have i1:(t:Int)<I.c.st:=by have:=HCS.out;omega
   obtain⟨ps,hps⟩:∃ps,(trS I t).1=ps:=⟨_,rfl⟩;obtain⟨ms,hms⟩:∃ms,(trS I t).2=ms:=⟨_,rfl⟩;obtain⟨bt,hbt⟩:∃bt,I.bat t=bt:=⟨_,rfl⟩;obtain⟨G,hG⟩:∃G,ZcG (I.mc 0) ps (Zas I.P) bt=G:=⟨_,rfl⟩;obtain⟨hpl,hml⟩:=HLN.out t;obtain⟨hpi,hmi⟩:=HAI.out t;have hnt:=HNT.out t;have hq1:=HQ1.out;have hq2:=HQ2.out;rw[hps] at hpl hpi hnt hq1;rw[hms] at hml hmi hnt hq2;rw[hbt,hG] at hnt;have hGl:G.length=I.P:=by rw[<-hG,Zct];simp
   obtain⟨hbi,hb60⟩:=HBT.out t;rw[hbt] at hbi hb60;have HRBt:Hid (∀W,Below wr.heap.size wr W->Calls prog 27 #[Zsu I.m b st Ao E co,.int .i64 t] W (ZdD W bt.length bt)):=hid (fun W bl=>by
    have h:=HRB.out t Ao co W (HRR.out.below bl);rw[hbt] at h;exact h)
   have HGRt:Hid (∀W X c,Below wr.heap.size wr W->Rd W 1 X bt.length (iv bt)->Calls prog 26 #[Zt2 I,.slice AA I.P cA,.slice X bt.length c] W fun e w'=>∃A c,e=.returned (.tuple #[.slice A I.P c,.bool true])/\w'.ownsRow W.heap.size 2 1 (.slice A I.P c) I.P (iv G)/\Bz0 W w'):=hid (fun W X c bl r=>by
    have h:=HGR.out W AA cA ps X bt.length c bt (bT0 HBR.out bl) hpl hpi (hq1.below bl) rfl (by omega) r hbi;rw[hG] at h;exact h)
   have HNXt:Hid (∀W X c,Below wr.heap.size wr W->Rd W 1 X I.P (iv G)->Calls prog 73 #[.agg #[.int .i64 I.c.ra,.int .i64 I.c.mo,.int .i64 I.c.sh],.agg #[.slice AA I.P cA,.slice BB I.P cB],.slice X I.P c] W fun e w'=>∃AP cP AM cM,e=.returned (.tuple #[.agg #[.slice AP I.P cP,.slice AM I.P cM],.bool true])/\w'.ownsRow W.heap.size 2 1 (.slice AP I.P cP) I.P (iv (trS I (t+1)).1)/\w'.ownsRow W.heap.size 2 1 (.slice AM I.P cM) I.P (iv (trS I (t+1)).2)/\Bz0 W w'):=hid (fun W X c bl r=>by
    have h:=ZhF I.c.ra I.c.mo I.c.sh AA BB X I.P cA cB c ps ms G W hpl hml hGl (hq1.below bl) (hq2.below bl) r (by omega) hra hmo hpi hmi;rw[hnt];exact h)
   clear hps hms hbt hG hpl hml hpi hmi hnt hq1 hq2 hGl hbi hb60 hlt;obtain⟨c0,c1,c2,c3,c4,c5,c6,c7,c8,c9,c10,c11,c12,c13,c14⟩:=cl15 HIR.out;have cl:=HIR.out.lt;have d0:wr.cell? ⟨base,0,none⟩=some (.slice AA I.P cA):=HBX.out.cell 0;have d1:wr.cell? ⟨base,1,none⟩=some (.slice BB I.P cB):=HBX.out.cell 1;have dl:=HBX.out.lt;have s0:wr.cell? ⟨sb,0,none⟩=some (.int .i64 I.m):=HSR.out.cell 0;have s1:wr.cell? ⟨sb,1,none⟩=some (.int .i64 b):=HSR.out.cell 1;have s2:wr.cell? ⟨sb,2,none⟩=some (.int .i64 st):=HSR.out.cell 2;have s3:wr.cell? ⟨sb,3,none⟩=some (.slice Ao E co):=HSR.out.cell 3;have sl:=HSR.out.lt;go_wp2_with fail;refine ZaZ (Zag wr) (TrV I.P bt G) (fun _ _ _ _=>True) [0,1,2,3,4] [5,6,7,8,9,10,11] [] (by kernel_rfl) (by kernel_rfl) (Zag.start wr) (fun _ _ _ _ h=>h) (fun _ _ _ _ h hb=>h.below hb) ?_;simp only[YaO,YaP,YaB,YaC];refine Zaa (Zt2 I) rfl (fun W hW=>?_) ?_
   ·obtain⟨hc,-,-⟩:=hW;go_simp
   go_simp;refine Zaa (.pointer (some ⟨base,0,none⟩)) rfl (fun W hW=>?_) ?_
   ·obtain⟨hc,-,-⟩:=hW;go_simp
   go_simp;refine Zaa (.slice AA I.P cA) rfl (fun W hW=>?_) ?_
   ·obtain⟨hc,-,-⟩:=hW;go_simp
   go_simp;refine Zaa (Zsu I.m b st Ao E co) rfl (fun W hW=>?_) ?_
   ·obtain⟨hc,-,-⟩:=hW;go_simp
   go_simp;refine Zaa (.int .i64 t) rfl (fun W hW=>?_) ?_
   ·obtain⟨hc,-,-⟩:=hW;go_simp
   go_simp;clear d0 d1 dl s0 s1 s2 s3 sl;refine Zen.mk ?_ ?_
   ·intro j8 hj8 o ho8 vs W hS hV;simp only[List.mem_cons,List.not_mem_nil,or_false] at hj8;have HS:=hid hS;have HV:=hid hV;clear hS hV
    rcases hj8 with rfl|rfl|rfl|rfl|rfl|rfl|rfl
    ·cases ho8
     unfold Zbo;simp only[ZaL,ZaT,YaD,YaB,YaC,YaE];change wpList _ _ _ (_::[]) _ _;go_wp2_with fail;((with_reducible refine(HRBt.out W HS.out.2.2).mono ?_);rintro e w9 ⟨A9,c9,rfl,-,hr9,hb9⟩);have HR9:=hid hr9;have HB9:=hid hb9;clear hr9 hb9;go_wp2_with fail;exact⟨HS.out.call HB9.out,TrV.v5 HR9.out,HB9.out⟩
    ·obtain⟨A9,c9,v5,r5⟩:=(HV.out 5 (by simp) (by kernel_rfl)).1 rfl;have HG9:=hid (HGRt.out W A9 c9 HS.out.2.2 r5);clear r5
     cases ho8
     unfold Zbo;simp only[ZaL,ZaT,YaD,YaB,YaC,YaE];rw[v5];change wpList _ _ _ (_::[]) _ _;go_wp2_with fail;((with_reducible refine HG9.out.mono ?_);rintro e w9 ⟨A8,c8,rfl,ho9,hb9⟩);have HR9:=hid (Rd.of_own ho9);have HB9:=hid hb9;clear ho9 hb9;go_wp2_with fail;exact⟨HS.out.call HB9.out,TrV.v6 (.inl rfl) HR9.out,HB9.out⟩
    ·obtain⟨A9,c9,v6,r6⟩:=(HV.out 6 (by simp) (by kernel_rfl)).2.1 (.inl rfl);have R6:=hid r6;clear r6
     cases ho8
     unfold Zbo;simp only[ZaL,ZaT,YaD,YaB,YaC,YaE];rw[v6];change wpList _ _ _ (_::[]) _ _;go_wp2_with fail;exact⟨HS.out,TrV.v6 (.inr rfl) R6.out,bR0 _ _⟩
    ·obtain⟨A9,c9,v6,r6⟩:=(HV.out 7 (by simp) (by kernel_rfl)).2.1 (.inr rfl);have R6:=hid r6;clear r6
     cases ho8
     unfold Zbo;simp only[ZaL,ZaT,YaD,YaB,YaC,YaE];rw[v6];change wpList _ _ _ (_::[]) _ _;go_wp2_with fail;exact⟨HS.out,TrV.v8 (.inl rfl) R6.out,bR0 _ _⟩
    ·obtain⟨A9,c9,v6,-⟩:=(HV.out 7 (by simp) (by kernel_rfl)).2.1 (.inr rfl)
     cases ho8
     unfold Zbo;simp only[ZaL,ZaT,YaD,YaB,YaC,YaE];rw[v6];change wpList _ _ _ (_::[]) _ _;go_wp2_with fail;exact⟨HS.out,TrV.v9 (.inl rfl),bR0 _ _⟩
    ·obtain⟨A9,c9,v6,r6⟩:=(HV.out 8 (by simp) (by kernel_rfl)).2.2 (.inl rfl);have R6:=hid r6;clear r6
     cases ho8
     unfold Zbo;simp only[ZaL,ZaT,YaD,YaB,YaC,YaE];rw[v6];change wpList _ _ _ (_::[]) _ _;go_wp2_with fail;exact⟨HS.out,TrV.v8 (.inr rfl) R6.out,bR0 _ _⟩
    ·cases ho8
     unfold Zbo;simp only[ZaL,ZaT,YaD,YaB,YaC,YaE];change wpList _ _ _ (_::[]) _ _;go_wp2_with fail;exact⟨HS.out,TrV.v9 (.inr rfl),bR0 _ _⟩
   ·intro vs W hS hV hR;obtain⟨Ag,cg,v10,r10⟩:=(hV 10 (by simp)).2.2 (.inr rfl);simp only[ZaL,ZaT,YaO,YaP,YaD,YaB,YaC,YaE];rw[v10];have HBW:=hid hS.2.2;have HRG:=hid r10;clear hS hV hR v10 r10;have HIW:=hid (HIR.out.kept HBW.out);have HBXW:=hid (HBX.out.kept HBW.out);unfold wpList;refine NoPanic.normal ?_;obtain⟨c0,c1,c2,c3,c4,c5,c6,c7,c8,c9,c10,c11⟩:=cl12 HIW.out;have cl:=HIW.out.lt;go_wp2_with fail;refine Zcz (fun X=>Blk X gin 29 (Zsa I)) (fun X=>Below W.heap.size W X) (NxB W I.P base (trS I (t+1))) (NxV I.P base I.c (.agg #[.slice AA I.P cA,.slice BB I.P cB]) (trS I (t+1))) [0,1,4] [2,3,5,6,7,8,9] 9 (by kernel_rfl) rfl (by kernel_rfl) HIW.out ((bR0 _ _).drew) (fun _ _ h hb=>h.kept hb) (fun _ _ h hb=>bT0 h hb) (fun _ _ h hb=>h.below hb) (fun _ _ _ _ h hb=>h.move (fun _ _ _ ho=>Zac ho hb)) ?_;simp only[YaO,YaP,YaB,YaC];refine Zaa (.pointer (some ⟨gin,0,none⟩)) rfl (fun W hW=>?_) ?_
    ·go_simp
    go_simp;refine Zaa (Zsq I.A I.n I.cap I.c) rfl (fun W hW=>?_) ?_
    ·have k0:=hW.cell 0;have k1:=hW.cell 1;have k2:=hW.cell 2;have k3:=hW.cell 3;have k4:=hW.cell 4;have k5:=hW.cell 5;have k6:=hW.cell 6;have k7:=hW.cell 7;have k8:=hW.cell 8;have k9:=hW.cell 9;have k10:=hW.cell 10;have k11:=hW.cell 11;have kl:=hW.lt;go_simp
    go_simp;refine Zaa (.slice Ag I.P cg) rfl (fun W hW=>?_) ?_
    ·go_simp
    go_simp;have HZW:Hid (base+1<=W.heap.size):=hid (YaH hzb HBW.out.size);refine Znj.mk ?_ ?_ ?_
    ·intro j8 hj8 hne o ho8 vs X hS hA hV;simp only[List.mem_cons,List.not_mem_nil,or_false] at hj8;have HA:=hid hA;have HV:=hid hV;clear hS hA hV
     rcases hj8 with rfl|rfl|rfl|rfl|rfl|rfl|rfl
     ·cases ho8
      unfold Zcy;simp only[ZaL,ZaT,YaD,YaB,YaC,YaE];change wpList _ _ _ (_::[]) _ _;go_wp2_with fail;((with_reducible refine(Zpx I.A I.n I.cap I.c X).mono ?_);rintro e w9 ⟨rfl,hb9⟩);have HB9:=hid hb9;clear hb9;go_wp2_with fail;exact⟨NxV.v2,HB9.out⟩
     ·have hk:=HBXW.out.kept (HA.out (by kernel_rfl));have d0:X.cell? ⟨base,0,none⟩=some (.slice AA I.P cA):=hk.cell 0;have d1:X.cell? ⟨base,1,none⟩=some (.slice BB I.P cB):=hk.cell 1;have dl:=hk.lt;clear hk
      cases ho8
      unfold Zcy;simp only[ZaL,ZaT,YaD,YaB,YaC,YaE];change wpList _ _ _ (_::[]) _ _;go_wp2_with fail;exact⟨NxV.v3,bR0 _ _⟩
     ·have hbX:=HA.out (by kernel_rfl);have v2:=(HV.out 2 (by simp) (by kernel_rfl)).1 rfl;have v3:=(HV.out 3 (by simp) (by kernel_rfl)).2.1 rfl;have HNX:=hid (HNXt.out X Ag cg (bT0 HBW.out hbX) (HRG.out.below hbX));have HBX9:Hid (base<=X.heap.size):=hid (by have:=hbX.size;have:=HZW.out;omega);clear hbX
      cases ho8
      unfold Zcy;simp only[ZaL,ZaT,YaD,YaB,YaC,YaE];rw[v2,v3];change wpList _ _ _ (_::[]) _ _;go_wp2_with fail;((with_reducible refine HNX.out.mono ?_);rintro e w9 ⟨A1,c1,A2,c2,rfl,h1,h2,hb9⟩);have H1:=hid (Zae h1 HBX9.out);have H2:=hid (Zae h2 HBX9.out);have HB9:=hid hb9;clear h1 h2 hb9;go_wp2_with fail;exact⟨NxV.v5 (.inl rfl) H1.out H2.out,HB9.out⟩
     ·obtain⟨A1,c1,A2,c2,v5,h1,h2⟩:=(HV.out 5 (by simp) (by kernel_rfl)).2.2.1 (.inl rfl);have H1:=hid h1;have H2:=hid h2;clear h1 h2
      cases ho8
      unfold Zcy;simp only[ZaL,ZaT,YaD,YaB,YaC,YaE];rw[v5];change wpList _ _ _ (_::[]) _ _;go_wp2_with fail;exact⟨NxV.v5 (.inr rfl) H1.out H2.out,bR0 _ _⟩
     ·obtain⟨A1,c1,A2,c2,v5,h1,h2⟩:=(HV.out 6 (by simp) (by kernel_rfl)).2.2.1 (.inr rfl);have H1:=hid h1;have H2:=hid h2;clear h1 h2
      cases ho8
      unfold Zcy;simp only[ZaL,ZaT,YaD,YaB,YaC,YaE];rw[v5];change wpList _ _ _ (_::[]) _ _;go_wp2_with fail;exact⟨NxV.v7 H1.out H2.out,bR0 _ _⟩
     ·obtain⟨A1,c1,A2,c2,v5,-,-⟩:=(HV.out 6 (by simp) (by kernel_rfl)).2.2.1 (.inr rfl)
      cases ho8
      unfold Zcy;simp only[ZaL,ZaT,YaD,YaB,YaC,YaE];rw[v5];change wpList _ _ _ (_::[]) _ _;go_wp2_with fail;exact⟨NxV.v8 (.inl rfl),bR0 _ _⟩
     ·exact absurd rfl hne
    ·intro o ho8 vs X hS hA hV;obtain⟨A1,c1,A2,c2,v7,h1,h2⟩:=(hV 7 (by simp) (by kernel_rfl)).2.2.2 rfl;have hk:=HBXW.out.kept hA;have d0:X.cell? ⟨base,0,none⟩=some (.slice AA I.P cA):=hk.cell 0;have d1:X.cell? ⟨base,1,none⟩=some (.slice BB I.P cB):=hk.cell 1;have f0:=hk.frozen 0;have f1:=hk.frozen 1;have dl:=hk.lt;have HKX:=hid hk;have HSX:=hid hS;have HAX:=hid hA;have H1:=hid h1;have H2:=hid h2;clear hV h1 h2 hk hS hA
     cases ho8
     unfold ZsA;simp only[ZaL,ZaT,YaD,YaB,YaC,YaE];rw[v7];change wpList _ _ _ (_::[]) _ _;go_wp2_with fail;have hst:=Zbb HKX.out (.slice A1 I.P c1) (.slice A2 I.P c2);have hmv:∀(A:Option Addr) (d:Nat) (l:List Int),X.ownsRow base 2 1 (.slice A I.P d) I.P (iv l)->_:=fun A d l ho=>ho.kept hst.1 (.inr (Zab ho HKX.out (by decide)))
     exact⟨HSX.out.grown hst.1 (fun e=>by injection e with e;have:=HGB.out;omega),⟨A1,c1,A2,c2,(But.of_below _ HAX.out).trans (But.of_gr hst.1 rfl),hst.2,hmv _ _ _ H1.out,hmv _ _ _ H2.out⟩,⟨undef,NxV.v8 (.inr rfl)⟩,fun k _ u _ h=>h.move hmv⟩
    ·intro vs X hS hB hV;obtain⟨A1,c1,A2,c2,hbut,hbx,ho1,ho2⟩:=hB;simp only[ZaL,ZaT,YaD,YaB,YaC,YaE];have hOW:=Zac HOW.out HBW.out;have HOX:=hid (Zaq hOW hbut (fun g hg e=>by have:=(hOW.lt g hg).1;omega));have hosX:ZcX X base I.P I.P l (trS I):=fun i s h=>⟨Zaq (Zac (HOS.out i s h).1 HBW.out) hbut (fun g hg e=>Zab (Zac (HOS.out i s h).1 HBW.out) HBXW.out (by decide) (by rw[hg,e])),Zaq (Zac (HOS.out i s h).2 HBW.out) hbut (fun g hg e=>Zab (Zac (HOS.out i s h).2 HBW.out) HBXW.out (by decide) (by rw[hg,e]))⟩
     have HSX:=hid (hosX.snoc (by rw[HL.out];exact ho1) (by rw[HL.out];exact ho2));have HBXX:=hid hbx;have HSTX:Hid (KT base w6 X):=hid ⟨(HST.out.trans (ZcA.of_below HBW.out)).trans (ZcA.of_but hbut HBXW.out),(HBB.out.trans (HBW.out.mono (by omega))).trans (hbut.below (by have:=HZW.out;omega) (fun i h=>by omega))⟩;have HZX:Hid (base+1<=X.heap.size):=hid (YaH HZW.out hbut.size);have d0:X.cell? ⟨base,0,none⟩=some (.slice A1 I.P c1):=hbx.cell 0;have d1:X.cell? ⟨base,1,none⟩=some (.slice A2 I.P c2):=hbx.cell 1;have dl:=hbx.lt;clear hS hV hbut hbx ho1 ho2 hOW hosX;have hk13:k<=13:=by have:=HK.out;have:=HLT.out;omega
     unfold wpList;refine NoPanic.normal ?_
     go_wp2_with (at_builtin;go_must (refine Zaj ZuD rfl _ _ rfl (base+1) (.slice A6 k d6) k (stv I.P I.P ((I.AP,I.cP,Z,cZ)::l)) rfl HOX.out #[.slice A1 I.P c1,.slice A2 I.P c2] X.heap.size rfl rfl rfl (ZdV _ _ _ _ _ _) (by unfold maxLen;omega) (by omega) HZX.out ?_);go_must (intro A' c' wa hown' hb' hgr' hat'))
     have hz':X.heap.size<=wa.heap.size:=hgr'.size;refine⟨⟨t+1,by have:=HLT.out;omega,rfl,⟨l++[(A1,c1,A2,c2)],(A1,c1,A2,c2),A',c',k+1,by rw[YaS,HL.out];rfl,by rw[HK.out],rfl,?_,HSX.out.row HOX.out (by decide) hgr',HBXX.out.grown hgr' (fun e=>by have:=(HOX.out.lt _ e.symm).1;omega),.inr ⟨by omega,by rw[<-HL.out];simp⟩⟩,HSTX.out.1.trans (ZcA.of_own' HOX.out hgr'),HSTX.out.2.trans (hb'.mono (by omega))⟩,?_⟩
     ·have e:stv I.P I.P ((I.AP,I.cP,Z,cZ)::(l++[(A1,c1,A2,c2)]))=stv I.P I.P ((I.AP,I.cP,Z,cZ)::l)++#[Value.slice A1 I.P c1,Value.slice A2 I.P c2].toList:=by
       rw[<-List.cons_append,ZdU];rfl
      rw[e];exact hown'
     ·have:=HLT.out;simp[intOf];omega
  ·obtain rfl:t=st:=by omega
   have i1:¬(t:Int)<I.c.st:=by have:=HCS.out;omega
   have c7:=cv7 HIR.out;have cl:=HIR.out.lt;go_wp2_with fail;refine bodyPost_ret (v:=.tuple #[.slice A6 k d6,.int .i64 0]) (by simp[results,results20,go_sem]) rfl ?_;have hnk:k=n:=by rw[HK.out,HN.out]
   subst hnk;refine⟨A6,d6,(I.AP,I.cP,Z,cZ)::l,by rw[List.length_cons,HL.out,HK.out],rfl,Rd.of_own HOW.out,fun i s1 y1 s2 y2 hs=>?_,HBR.out⟩
   cases i with
   |zero=>
    injection hs with hs
    injection hs with e1 hs
    injection hs with e2 hs
    injection hs with e3 e4
    subst e1 e3;have hb2r:Below base w2 wr:=HB26.out.trans HBB.out;exact⟨HI.out.rp.below HBR.out,HZ.out.below (hb2r.mono HZ26.out.1)⟩
   |succ i=>exact⟨Rd.of_own (HOS.out i (s1,y1,s2,y2) hs).1,Rd.of_own (HOS.out i (s1,y1,s2,y2) hs).2⟩
