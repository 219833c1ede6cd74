/- Lemmas. -/
import Derived.Test.YtkmaeipoaoikpaaGreatEC23
namespace Go.Proofs.YtkmaeipoaoikpaaGreat
set_option linter.all false
set_option maxRecDepth 100000
set_option maxHeartbeats 4000000
open Lib (hid)
open Go.RowKit
open Tryz
section
variable{I:InC}{pos:Nat→Nat}{s:WS}{x p':Nat}{m:MS}
theorem ZmV(hO:I.Ok)(hS:Sm I)(h:At I pos s)(hx:x<I.rg.n) :
  (ZhO I I.rg.n x s=true/\∃p',I.rg.Nx x (pos x) p'/\At I (Rg.upd pos x p') (Zf7 I I.rg.n x s))\/(Zwq I I.rg.n x s/\¬I.rg.Can pos x):=by
 obtain⟨m,hm⟩:=ZbY (l:=s.mss) (x:=x) (by rw[h.ml];exact hx);have hM:=h.m x m hm;have hR:=Zd1 (InC.pc_ok hO);have hpv:=Rg.pv_lt hR x
 rcases Nat.lt_or_ge (pos x) I.rg.N with hp|hp
 ·have h0:=h.inv.at_ x hx hp;obtain⟨p',hn⟩:=Rg.nx_ex I.rg x (pos x) hp;obtain⟨sl,it,hs,hi,hN,hit,htt⟩:=hM.item (InC.pc_ok hO) hx hp h0;have hsm:=YaL hs;have hkd:I.rg.kd x (pos x)=(I.mc 0).pc.kdS x sl:=ZjL hs;obtain⟨s1,s2,s3⟩:=h.small hO hS hx hm;have hright:ZjE (I.mc x) it=true:=Zpa (InC.pc_ok hO) (InC.pc_ch hO) rfl rfl (by have:=hO.st;omega) hsm hi
  rcases Zg4 hsm hi with⟨k1,e,hk⟩|⟨k1,k3,y,hy,e⟩|⟨k1,k3,y,hy,e⟩
  ·left
   have e1:it.1.1=((sl.1:Nat):Int):=by rw[e];rfl
   have n3:it.1.1≠3:=by rw[e1];omega
   have n4:it.1.1≠4:=by rw[e1];omega
   refine⟨?_,p',hn,?_⟩
   ·unfold ZhO;rw[hm];dsimp only;rw[hit];dsimp only;rw[if_neg n3,if_neg n4,hright,s1];simp only[Bool.true_and,YaQ,decide_eq_true_eq,Bool.or_eq_true];refine⟨s2,?_⟩;rw[e1];omega
   ·rw[Zpb hm hit n3 n4];exact ZtD hO h hx hm hp (hkd.trans k1) hN (by rw[e];rfl) hn
  ·have e1:it.1.1=3:=by rw[e]
   obtain⟨l,hl⟩:=ZbY (l:=s.lss) (x:=x) (by rw[h.ll];exact hx);obtain⟨a,b,c⟩:=h.l x l hl
   by_cases hroom:l.s-l.r<I.c.ca.toNat
   ·left
    refine⟨?_,p',hn,?_⟩
    ·unfold ZhO;rw[hm];dsimp only;rw[hit];dsimp only;rw[if_pos e1,hright,s1,hl];simp only[Bool.true_and,YaQ,decide_eq_true_eq];exact⟨s2,hroom,s3 x l hl⟩
    ·rw[ZrC hm hit e1 hl];exact Zvm hO h hx hm hp (hkd.trans k1) hN (by rw[e]) hn hl
   ·right
    refine⟨⟨m,hm,.inr ⟨it,hit,hright,.inl ⟨e1,l,hl,by omega⟩⟩⟩,fun hC=>?_⟩;have:=hC.2.2.1 (hkd.trans k1);rw[this] at a;have hq:l.q.length=0:=by rw[a];rfl
    have:=hO.nums.ca;omega
  ·have e1:it.1.1=4:=by rw[e]
   have k2:I.rg.kd x (pos x)=3:=hkd.trans k1;obtain⟨l,hl⟩:=ZbY (l:=s.lss) (x:=I.rg.pv x) (by rw[h.ll];exact hpv);obtain⟨a,b,c⟩:=h.l _ l hl;rw[Rg.sc_pv hR hx] at a
   by_cases hs':pos x-1<pos (I.rg.pv x)
   ·left
    obtain⟨q,hq,hA⟩:=Zvn hO h hx hm hp k2 hN (by rw[e]) hn hl hs';obtain⟨k,j,b',y',hp1,hq1,hd1,_,hy',hi1,hi2⟩:=Zfb hO hx k2;have hmsg:I.rg.msg (I.rg.pv x) (pos x-1) (I.rg.sy (pos x-1) (I.rg.pv x))=(it.2.2.1,pcL (I.rg.sy (pos x-1) (I.rg.pv x)).G it.2.2.2.1.toNat (it.2.2.2.2-it.2.2.2.1).toNat):=by
     show (match (I.mc 0).pc.itN (I.rg.pv x) (pos x-1) with|some it=>Zwn it _|none=>_)=_
     rw[hi2];rw[hN] at hi1;injection hi1 with hi1
     rw[hi1];rfl
    refine⟨?_,p',hn,?_⟩
    ·unfold ZhO;rw[hm];dsimp only;rw[hit];dsimp only;rw[if_neg (by rw[e1];decide),if_pos e1,hright,s1,show s.lss[(x+I.rg.n-1)%I.rg.n]?=some l from hl];simp only[hq,hmsg,Bool.true_and,YaQ,decide_eq_true_eq,true_and];refine⟨s2,?_⟩;refine ZrA ?_;have hG:=(ZnZ hO hS.P0 (pos x-1) (I.rg.pv x) hpv).1.G;have hin:=ZnY (InC.pc_ok hO) (InC.pc_ch hO) (PlC.q_lt (InC.pc_ok hO) x sl.2.1).2 (YaL hy);have hPP:(I.mc 0).pc.P=I.P:=rfl;rw[hPP] at hin;rw[hG,e];dsimp only;omega
    ·rw[ZrD (t:=it.2.2.1) (vs:=pcL (I.rg.sy (pos x-1) (I.rg.pv x)).G it.2.2.2.1.toNat (it.2.2.2.2-it.2.2.2.1).toNat) (q:=q) hm hit e1 hl (by rw[hq,hmsg])];rw[hmsg] at hA;exact hA
   ·right
    refine⟨⟨m,hm,.inr ⟨it,hit,hright,.inr ⟨e1,l,hl,?_⟩⟩⟩,fun hC=>hs' (hC.2.2.2 k2)⟩;rw[a];have:I.rg.sn (I.rg.pv x) (pos x) (pos (I.rg.pv x))=[]:=List.eq_nil_iff_forall_not_mem.2 (fun i hi'=>by
     obtain⟨z1,z2,z3⟩:=Rg.sn_mem.1 hi'
     omega)
    rw[this];rfl
 ·right
  have hpe:pos x=I.rg.N:=Nat.le_antisymm (h.inv.le x hx) hp;refine⟨⟨m,hm,.inl ?_⟩,fun hC=>by have:=hC.2.1;omega⟩;have hL:=ZfU (c:=(I.mc 0).pc);have hd:pos x/(I.mc 0).pc.sl=I.c.st.toNat:=by
   rw[hpe];exact Nat.mul_div_cancel _ hL
  rw[hM.its,hd];unfold PlC.stepI;rw[if_neg (by omega)];rfl
theorem ZjQ(hO:I.Ok)(h:At I pos s):Zet s.mss=true↔∀x,x<I.rg.n->pos x=I.rg.N:=by
 constructor
 ·intro hd x hx;obtain⟨m,hm⟩:=ZbY (l:=s.mss) (x:=x) (by rw[h.ml];exact hx);have h1:ZjC m=true:=List.all_eq_true.1 hd m (YaL hm);unfold ZjC at h1;rw[decide_eq_true_eq] at h1
  rcases Nat.lt_or_ge (pos x) I.rg.N with hp|hp
  ·obtain⟨sl,it,hs,hi,hN,hit,htt⟩:=(h.m x m hm).item (InC.pc_ok hO) hx hp (h.inv.at_ x hx hp);have:=ZbH hit;omega
  ·exact Nat.le_antisymm (h.inv.le x hx) hp
 ·intro hd;refine ZiA h.ml (fun x m hx hm=>?_);have hL:=ZfU (c:=(I.mc 0).pc);have hM:=h.m x m hm;unfold ZjC;rw[decide_eq_true_eq,hM.its,hd x hx,show I.rg.N/(I.mc 0).pc.sl=I.c.st.toNat from Nat.mul_div_cancel _ hL];unfold PlC.stepI;rw[if_neg (by omega)];exact Nat.zero_le _
def ZrE(I:InC)(x:Nat)(s:WS):WS:=if ZhO I I.rg.n x s=true then Zf7 I I.rg.n x s else s
def Zcd(I:InC)(s:WS):Nat->WS
 |0=>s
 |p+1=>ZrE I (p%I.rg.n) (Zcd I s p)
theorem ZrF(hO:I.Ok)(hS:Sm I)(h:At I pos s)(hx:x<I.rg.n) :
  (∃pos',At I pos' (ZrE I x s)/\(ZrE I x s).cnt=s.cnt+1)\/(ZrE I x s=s/\¬I.rg.Can pos x):=by
 unfold ZrE
 by_cases hb:ZhO I I.rg.n x s=true
 ·rw[if_pos hb]
  rcases ZmV hO hS h hx with⟨_,p',hn,hA⟩|⟨⟨m,hm,hF⟩,hC⟩
  ·left
   refine⟨_,hA,?_⟩;obtain⟨m,hm⟩:=ZbY (l:=s.mss) (x:=x) (by rw[h.ml];exact hx);have hp:pos x<I.rg.N:=YaK hn.lt hn.le;rw[hA.cnt,h.cnt];exact ZjM _ _ (x:=x) (by rw[Rg.upd_same];exact ZjN (h.inv.at_ x hx hp) hn) (fun y hy=>by rw[Rg.upd_ne _ _ hy]) _ hx
  ·exfalso
   unfold ZhO at hb;rw[hm] at hb;dsimp only at hb
   rcases hF with hF|⟨it,hit,_,⟨e1,l,hl,hr⟩|⟨e1,l,hl,hq⟩⟩
   ·rw[hF] at hb;cases hb
   ·rw[hit] at hb;dsimp only at hb;rw[if_pos e1,hl] at hb;simp only[YaQ,decide_eq_true_eq] at hb;omega
   ·rw[hit] at hb;dsimp only at hb;rw[if_neg (by rw[e1];decide),if_pos e1,hl] at hb;dsimp only at hb;rw[hq] at hb;simp at hb
 ·rw[if_neg hb]
  rcases ZmV hO hS h hx with⟨hb',_⟩|⟨_,hC⟩
  ·exact absurd hb' hb
  ·exact .inr ⟨rfl,hC⟩
end
section
variable{I:InC}{s:WS}
theorem Zn0(hO:I.Ok):At I (fun _=>0) (ZbA I I.rg.n):=by
 have hk:=InC.pc_ok hO;have hm:∀(x:Nat) (m:MS),(Ze4 I I.rg.n)[x]?=some m->m=ZdD I x:=fun x m h=>by
  unfold Ze4 at h;have hx:x<I.rg.n:=by have:=ZbH h;simpa using this
  rw[YaR,List.getElem?_range hx] at h;injection h with h
  exact h.symm
 refine⟨⟨fun x _=>Nat.zero_le _,fun x _ _=>?_,fun x i _ _ h=>by omega⟩,by simp[ZbA,Ze4],by simp[ZbA,Ze5],fun x m h=>?_,fun x l h=>?_,?_⟩
 ·show (I.mc 0).pc.kdN 60 x 0≠0
  rw[ZnT hk];decide
 ·rw[hm x m h];refine⟨rfl,?_,?_,rfl⟩
  ·show I.its x=_
   rw[Nat.zero_div];rfl
  ·show 0=_
   rw[Nat.zero_mod];rfl
 ·have hl:l=⟨0,0,[]⟩:=by
   have:l∈Ze5 I.rg.n:=YaL h;unfold Ze5 at this;exact(List.mem_replicate.1 this).2
  rw[hl];exact⟨rfl,rfl,Nat.zero_le _⟩
 ·show 0=_
  have:∀n,Zee (fun _=>0) n=0:=fun n=>by induction n with
   |zero=>rfl
   |succ n ih=>rw[Zee,ih]
  exact(this _).symm
theorem Zg6(hO:I.Ok)(hS:Sm I){pos:Nat->Nat}(h:At I pos s):∀p,∃pos',At I pos' (Zcd I s p)
 |0=>⟨pos,h⟩
 |p+1=>by
  obtain⟨pos',h'⟩:=Zg6 hO hS h p;have hn:p%I.rg.n<I.rg.n:=Nat.mod_lt _ (Zd1 (InC.pc_ok hO)).n1
  rcases ZrF hO hS h' hn with⟨pos'',hA,_⟩|⟨e,_⟩
  ·exact⟨pos'',hA⟩
  ·exact⟨pos',by rw[Zcd,e];exact h'⟩
theorem Zn1(hO:I.Ok)(hS:Sm I){pos:Nat->Nat}{k:Nat}(h:At I pos (Zcd I s (k*I.rg.n))){y:Nat}(hy:I.rg.Can pos y):∀j,j<=I.rg.n ->
  (Zcd I s (k*I.rg.n)).cnt+1<=(Zcd I s (k*I.rg.n+j)).cnt/\(∃pos',At I pos' (Zcd I s (k*I.rg.n+j)))\/Zcd I s (k*I.rg.n+j)=Zcd I s (k*I.rg.n)/\∀z,z<j->¬I.rg.Can pos z
 |0,_=>.inr ⟨rfl,fun z hz=>by omega⟩
 |j+1,hj=>by
  have hn1:=(Zd1 (InC.pc_ok hO)).n1;have hmod:(k*I.rg.n+j)%I.rg.n=j:=by rw[Nat.mul_comm,Nat.mul_add_mod,Nat.mod_eq_of_lt (by omega)]
  rcases Zn1 hO hS h hy j (by omega) with⟨h1,pos',h2⟩|⟨h1,h2⟩
  ·left
   have e:Zcd I s (k*I.rg.n+(j+1))=ZrE I j (Zcd I s (k*I.rg.n+j)):=by
    rw[<-Nat.add_assoc,Zcd,hmod]
   rw[e]
   rcases ZrF hO hS h2 (show j<I.rg.n by omega) with⟨pos'',hA,hc⟩|⟨e2,_⟩
   ·exact⟨by omega,pos'',hA⟩
   ·rw[e2];exact⟨h1,pos',h2⟩
  ·have e:Zcd I s (k*I.rg.n+(j+1))=ZrE I j (Zcd I s (k*I.rg.n)):=by
    rw[<-Nat.add_assoc,Zcd,hmod,h1]
   rw[e]
   rcases ZrF hO hS h (show j<I.rg.n by omega) with⟨pos'',hA,hc⟩|⟨e2,hC⟩
   ·left
    exact⟨by omega,pos'',hA⟩
   ·right
    refine⟨e2,fun z hz=>?_⟩
    by_cases e3:z=j
    ·rw[e3];exact hC
    ·exact h2 z (by omega)
def InC.tot(I:InC):Nat:=Zee (fun x=>(I.mc 0).pc.cn x I.rg.N) I.rg.n
theorem ZrG(f g:Nat->Nat):∀n,(∀y,y<n->f y<=g y)->Zee f n<=Zee g n/\(∀x,x<n->f x<g x->Zee f n<Zee g n)
 |0,_=>⟨YaF _,fun x hx=>by omega⟩
 |n+1,h=>by
  obtain⟨h1,h2⟩:=ZrG f g n (fun y hy=>h y (by omega));have h3:=h n (by omega);refine⟨by rw[Zee,Zee];omega,fun x hx hl=>?_⟩;rw[Zee,Zee]
  by_cases e:x=n
  ·rw[e] at hl;omega
  ·have:=h2 x (by omega) hl;omega
theorem Zvo{n N:Nat}{pos:Nat->Nat}(hle:∀x,x<n->pos x<=N)(h:¬∀x,x<n->pos x=N):∃x,x<n/\pos x<N:=by
 rcases Classical.em (∃x,x<n/\pos x<N) with h1|h1
 ·exact h1
 ·exact absurd (fun x hx=>Nat.le_antisymm (hle x hx) (Nat.le_of_not_lt (fun h2=>h1 ⟨x,hx,h2⟩))) h
theorem ZiD(hO:I.Ok)(hS:Sm I)(h:At I (fun _=>0) s):∀k,(∃p,p<=k*I.rg.n/\Zet (Zcd I s p).mss=true)\/k<=(Zcd I s (k*I.rg.n)).cnt
 |0=>.inr (Nat.zero_le _)
 |k+1=>by
  rcases ZiD hO hS h k with⟨p,hp,hd⟩|hk
  ·exact .inl ⟨p,YaH hp (YaW _ (Nat.le_succ k)),hd⟩
  ·obtain⟨pos,hA⟩:=Zg6 hO hS h (k*I.rg.n)
   by_cases hd:Zet (Zcd I s (k*I.rg.n)).mss=true
   ·exact .inl ⟨_,YaW _ (Nat.le_succ k),hd⟩
   ·right
    obtain⟨x,hx,hl⟩:=Zvo hA.inv.le (fun e=>hd ((ZjQ hO hA).2 e));obtain⟨y,hy⟩:=Rg.lives (Zd1 (InC.pc_ok hO)) pos hx hl;rw[Nat.add_mul,Nat.one_mul]
    rcases Zn1 hO hS hA hy I.rg.n (YaF _) with⟨h1,_⟩|⟨_,h2⟩
    ·omega
    ·exact absurd hy (h2 y hy.1)
theorem ZrH(P:Nat->Prop)(h:∃p,P p):∃p,P p/\∀q,q<p->¬P q:=by
 obtain⟨p,hp⟩:=h
 induction p using Nat.strongRecOn with
 |_ p ih=>
  rcases Classical.em (∃q,q<p/\P q) with⟨q,hq,hP⟩|hno
  ·exact ih q hq hP
  ·exact⟨p,hp,fun q hq hP=>hno ⟨q,hq,hP⟩⟩
theorem ZrI(hO:I.Ok)(hS:Sm I):∃p,p<=I.tot*I.rg.n/\Zet (Zcd I (ZbA I I.rg.n) p).mss=true/\(∀q,q<p->Zet (Zcd I (ZbA I I.rg.n) q).mss=false)/\At I (fun _=>I.rg.N) (Zcd I (ZbA I I.rg.n) p):=by
 have h:=Zn0 hO;have hex:∃p,p<=I.tot*I.rg.n/\Zet (Zcd I (ZbA I I.rg.n) p).mss=true:=by
  rcases ZiD hO hS h I.tot with hd|hk
  ·exact hd
  ·refine⟨_,YaF _,?_⟩;obtain⟨pos,hA⟩:=Zg6 hO hS h (I.tot*I.rg.n);refine(ZjQ hO hA).2 (fun x hx=>?_)
   rcases Nat.lt_or_ge (pos x) I.rg.N with hl|hl
   ·have h1:=(ZrG (fun x=>(I.mc 0).pc.cn x (pos x)) (fun x=>(I.mc 0).pc.cn x I.rg.N) I.rg.n (fun y hy=>ZjF y (hA.inv.le y hy))).2 x hx (by
     have h2:(I.mc 0).pc.cn x (pos x+1)=(I.mc 0).pc.cn x (pos x)+1:=by
      rw[PlC.cn,if_neg (show ¬(I.mc 0).pc.kdN 60 x (pos x)=0 from hA.inv.at_ x hx hl)]
     have h3:=ZjF (c:=(I.mc 0).pc) x (show pos x+1<=I.rg.N from hl)
     omega)
    rw[<-hA.cnt] at h1;have:Zee (fun x=>(I.mc 0).pc.cn x I.rg.N) I.rg.n=I.tot:=rfl;omega
   ·exact Nat.le_antisymm (hA.inv.le x hx) hl
 obtain⟨p0,hp0,hd0⟩:=hex;obtain⟨p,hd,hmin⟩:=ZrH (fun p=>Zet (Zcd I (ZbA I I.rg.n) p).mss=true) ⟨p0,hd0⟩;have hle:p<=p0:=Nat.le_of_not_lt (fun hlt=>hmin p0 hlt hd0);obtain⟨pos,hA⟩:=Zg6 hO hS h p;refine⟨p,YaH hle hp0,hd,fun q hq=>by simpa using hmin q hq,?_⟩;have hall:=(ZjQ hO hA).1 hd;have hR:=Zd1 (InC.pc_ok hO);refine⟨⟨fun x _=>YaF _,fun x _ hl=>by omega,fun x i hx hk hl=>?_⟩,hA.ml,hA.ll,fun x m hm=>?_,fun x l hl=>?_,?_⟩
 ·have:=hA.inv.sent x i hx hk (by rw[hall _ (Rg.sc_lt hR x)];exact hl)
  rwa [hall x hx] at this
 ·have:=hA.m x m hm
  rwa [hall x (by rw[<-hA.ml];exact ZbH hm)] at this
 ·have:=hA.l x l hl
  rwa [hall x (by rw[<-hA.ll];exact ZbH hl),hall _ (Rg.sc_lt hR x)] at this
 ·rw[hA.cnt];exact ZdW _ _ _ (fun y hy=>by rw[hall y hy])
end
section
variable{own:Nat→Nat}{W:World}{xb:Nat}{I:InC}{mbs lbs:List Nat}{AW:Option Addr}{cW:Nat}{AL:Option Addr}{cL:Nat}
theorem ZtE{s:WS}{pos:Nat->Nat}(h:Zar own W xb I mbs lbs s.mss s.lss AW cW AL cL s.cnt)(hO:I.Ok)(hS:Sm I)(hA:At I pos s)(x:Nat)(hn:mbs.length=I.rg.n)(hl:lbs.length=I.rg.n)(hx:x<I.rg.n)(hxw:(x:Int)<I.c.wk) :
  Calls prog 71 #[.pointer (some ⟨xb,0,none⟩),.int .i64 x] W fun e w'=>∃r,e=.returned (.bool r)/\∃own',Zar own' w' xb I mbs lbs (ZrE I x s).mss (ZrE I x s).lss AW cW AL cL (ZrE I x s).cnt/\(∀i,own' i≠0->own i≠0\/W.heap.size<=i)/\But (fun i=>own i≠0) W w':=by
 have hn8:I.rg.n<=8:=(InC.pc_ok hO).m2;unfold ZrE
 by_cases hb:ZhO I I.rg.n x s=true
 ·rw[if_pos hb];exact Zrn h hO I.rg.n x hn hl hx (by omega) hxw hb
 ·rw[if_neg hb]
  rcases ZmV hO hS hA hx with⟨hb',_⟩|⟨hF,_⟩
  ·exact absurd hb' hb
  ·refine(ZhX s h hO I.rg.n x hn hl hx (by omega) hxw (fun m hm=>(Ze9 (hA.small hO hS hx hm).1).cnt) hF).mono ?_;rintro e w' ⟨rfl,hbl⟩;exact⟨false,rfl,own,h.below hbl (fun _ _=>rfl),fun i hi=>.inl hi,But.of_below _ hbl⟩
theorem Zpd(h:Zar own W xb I mbs lbs (ZbA I I.rg.n).mss (ZbA I I.rg.n).lss AW cW AL cL 0)(hO:I.Ok)(hS:Sm I)(hwk:(I.rg.n:Int)=I.c.wk)(hn:mbs.length=I.rg.n)(hl:lbs.length=I.rg.n)(most:Nat)(hm:I.tot*I.rg.n<=most)(hm9:most<=1000000000) :
  Calls prog 19 #[.pointer (some ⟨xb,0,none⟩),.int .i64 most] W fun e w'=>∃N:Nat,e=.returned (.tuple #[.int .i64 N,.bool true])/\∃own' s',Zg1 own W own' w' xb I mbs lbs s' AW cW AL cL/\At I (fun _=>I.rg.N) s':=by
 obtain⟨N,hN,hd,hnd,hE⟩:=ZrI hO hS;have hn1:=(Zd1 (InC.pc_ok hO)).n1;have hn8:I.rg.n<=8:=(InC.pc_ok hO).m2;refine(Zg2 (fun p=>Zcd I (ZbA I I.rg.n) p) N most I.rg.n h hn hn1 (by omega) (YaH hN hm) hm9 hnd hd (fun p own' w' hp hw=>?_)).mono ?_
 ·obtain⟨pos,hA⟩:=Zg6 hO hS (Zn0 hO) p;have hx:p%I.rg.n<I.rg.n:=Nat.mod_lt _ hn1;exact ZtE hw hO hS hA (p%I.rg.n) hn hl hx (by omega)
 ·rintro e w' ⟨rfl,own',hR⟩;exact⟨N,rfl,own',_,hR,hE⟩
end
def stp(I:InC)(t:Nat)(s:Sl4)(F:Nat->Cr)(x:Nat):Cr:=
 if s.1=3 then F x
 else if s.1=4 then
  match ((I.mc 0).pc.chk s.2.2.1 ((I.mc 0).pc.rq x s.2.1))[s.2.2.2]? with
  |some y=>{ F x with G:=ZdF (decide ((I.mc 0).pc.ph s.2.1=0)) (F x).G y.1.toNat (y.2-y.1).toNat (pcL (F (I.rg.pv x)).G y.1.toNat (y.2-y.1).toNat) }
  |none=>F x
 else ZmO (Za1 (I.mc x) (F x).ms (Zb4 s.1 (t:Int) (s.2.2.1:Int)))
section
variable{I:InC}
theorem ZrJ(hO:I.Ok)(t:Nat)(s:Sl4){F F':Nat->Cr}(h:∀x,x<I.rg.n->F x=F' x){x:Nat}(hx:x<I.rg.n):stp I t s F x=stp I t s F' x:=by
 unfold stp;rw[h x hx,h _ (Rg.pv_lt (Zd1 (InC.pc_ok hO)) x)]
theorem Zwr(hO:I.Ok){t q:Nat}(hq:q<(I.mc 0).pc.sl){s:Sl4}(hs:((I.mc 0).pc.stepS 60)[q]?=some s){x:Nat}(hx:x<I.rg.n):I.rg.sy (t*(I.mc 0).pc.sl+q+1) x=stp I t s (I.rg.sy (t*(I.mc 0).pc.sl+q)) x:=by
 obtain⟨a1,a2⟩:=ZdG (c:=(I.mc 0).pc) t q hq;have hsm:=YaL hs;have hs':((I.mc 0).pc.stepS 60)[(t*(I.mc 0).pc.sl+q)%(I.mc 0).pc.sl]?=some s:=by rw[a1];exact hs
 have hkd:I.rg.kd x (t*(I.mc 0).pc.sl+q)=(I.mc 0).pc.kdS x s:=ZjL hs';have hN:(I.mc 0).pc.itN x (t*(I.mc 0).pc.sl+q)=(I.mc 0).pc.itS x (t:Int) s:=by
  unfold PlC.itN;rw[a1,a2,hs]
 rw[Rg.sy];unfold stp
 by_cases h3:s.1=3
 ·rw[if_pos h3];have:(I.mc 0).pc.kdS x s=0\/(I.mc 0).pc.kdS x s=2:=by
   unfold PlC.kdS;rw[if_pos h3]
   split
   ·exact .inr rfl
   ·exact .inl rfl
  rw[hkd,if_neg (by omega),if_neg (by omega)]
 ·rw[if_neg h3]
  by_cases h4:s.1=4
  ·rw[if_pos h4]
   by_cases hb:s.2.2.2<((I.mc 0).pc.chk s.2.2.1 ((I.mc 0).pc.rq x s.2.1)).length
   ·have hk3:I.rg.kd x (t*(I.mc 0).pc.sl+q)=3:=by
     rw[hkd];unfold PlC.kdS;rw[if_neg h3,if_pos h4,if_pos hb]
    obtain⟨k,j,b,y,hp1,hq1,hd1,hsl,hy,hi1,hi2⟩:=Zfb hO hx hk3;rw[hs'] at hsl;injection hsl with hsl
    subst hsl;dsimp only at hy ⊢;rw[hk3,if_neg (by decide),if_pos rfl,hy];dsimp only;have hm:(I.rg.msg (I.rg.pv x) (t*(I.mc 0).pc.sl+q-1) (I.rg.sy (t*(I.mc 0).pc.sl+q) (I.rg.pv x))).2=pcL (I.rg.sy (t*(I.mc 0).pc.sl+q) (I.rg.pv x)).G y.1.toNat (y.2-y.1).toNat:=by
     show (match (I.mc 0).pc.itN (I.rg.pv x) (t*(I.mc 0).pc.sl+q-1) with|some it=>Zwn it (I.rg.sy (t*(I.mc 0).pc.sl+q) (I.rg.pv x)).G|none=>((0,0,0,0,0),[])).2=_
     rw[hi2];rfl
    rw[<-hm]
    show (match (I.mc 0).pc.itN x (t*(I.mc 0).pc.sl+q) with|some it=>_|none=>_)=_
    rw[hi1]
   ·have hk0:I.rg.kd x (t*(I.mc 0).pc.sl+q)=0:=by
     rw[hkd];unfold PlC.kdS;rw[if_neg h3,if_pos h4,if_neg hb]
    rw[hk0,if_neg (by decide),if_neg (by decide),YaN (by omega)]
  ·rw[if_neg h4];have hk1:I.rg.kd x (t*(I.mc 0).pc.sl+q)=1:=by
    rw[hkd];unfold PlC.kdS;rw[if_neg h3,if_neg h4]
   rw[hk1,if_pos rfl]
   show (match (I.mc 0).pc.itN x (t*(I.mc 0).pc.sl+q) with|some it=>_|none=>_)=_
   rw[hN];unfold PlC.itS;rw[if_neg h3,if_neg h4]
def Zgo(I:InC)(t:Nat)(l:List Sl4)(F:Nat->Cr):Nat->Cr:=l.foldl (fun F s=>stp I t s F) F
theorem Zbv(t:Nat)(l k:List Sl4)(F:Nat->Cr):Zgo I t (l++k) F=Zgo I t k (Zgo I t l F):=List.foldl_append
theorem ZrK(hO:I.Ok)(t:Nat):∀q,q<=(I.mc 0).pc.sl->∀x,x<I.rg.n->I.rg.sy (t*(I.mc 0).pc.sl+q) x=Zgo I t (((I.mc 0).pc.stepS 60).take q) (I.rg.sy (t*(I.mc 0).pc.sl)) x
 |0,_,x,hx=>rfl
 |q+1,h,x,hx=>by
  obtain⟨s,hs⟩:=ZbY (l:=(I.mc 0).pc.stepS 60) (x:=q) (show q<((I.mc 0).pc.stepS 60).length from h);rw[<-Nat.add_assoc,Zwr hO (by omega) hs hx,List.take_add_one,hs,Zbv];exact ZrJ hO t s (fun y hy=>ZrK hO t q (by omega) y hy) hx
theorem Zvp(hO:I.Ok)(t:Nat){x:Nat}(hx:x<I.rg.n):I.rg.sy ((t+1)*(I.mc 0).pc.sl) x=Zgo I t ((I.mc 0).pc.stepS 60) (I.rg.sy (t*(I.mc 0).pc.sl)) x:=by
 have:=ZrK hO t (I.mc 0).pc.sl (YaF _) x hx;rw[YaX (show ((I.mc 0).pc.stepS 60).length<=(I.mc 0).pc.sl from YaF _)] at this;rw[Nat.add_mul,Nat.one_mul];exact this
end
def eeL(l:List (Int×Int))(e:Int)(b:Nat):Int:=match l[b]? with
 |some y=>y.1
 |none=>e
theorem ZrL{l:List (Int×Int)}{a e:Int}(h:Zbk l a e):eeL l e 0=a:=by
 cases l with
 |nil=>unfold Zbk at h;exact h.symm
 |cons c l=>unfold Zbk at h;exact h.1
theorem ZmW:∀{l:List (Int×Int)} {a e:Int},Zbk l a e->∀(b:Nat) (y:Int×Int),l[b]?=some y->eeL l e b=y.1/\eeL l e (b+1)=y.2/\a<=y.1/\y.1<=y.2/\y.2<=e
 |[],a,e,h,b,y,hy=>by simp at hy
 |c::l,a,e,h,0,y,hy=>by
  have hh:=h;unfold Zbk at hh;obtain⟨h1,h2,h3⟩:=hh;have hy:c=y:=by simpa using hy
  subst hy;have h4:=(Zfa h3).1;exact⟨rfl,ZrL h3,by omega,by omega,h4⟩
 |c::l,a,e,h,b+1,y,hy=>by
  have hh:=h;unfold Zbk at hh;obtain⟨h1,h2,h3⟩:=hh;obtain⟨g1,g2,g3,g4,g5⟩:=ZmW h3 b y (by simpa using hy);refine⟨?_,?_,by omega,g4,g5⟩
  ·rw[<-g1];rfl
  ·rw[<-g2];rfl
theorem Zxh{l:List (Int×Int)}{a e:Int}(h:Zbk l a e)(b:Nat):a<=eeL l e b/\eeL l e b<=e:=by
 cases hb:l[b]? with
 |none=>
  have:eeL l e b=e:=by unfold eeL;rw[hb]
  rw[this];exact⟨(Zfa h).1,Int.le_refl _⟩
 |some y=>
  obtain⟨g1,g2,g3,g4,g5⟩:=ZmW h b y hb;rw[g1];omega
theorem ZrM(f new:Nat->Int)(a e:Int)(n o k:Nat)(h:o+k<=n)(hd:∀i:Nat,o<=i->i<o+k->¬(a<=(i:Int)/\(i:Int)<e)):pcL (ZhU f new a e n) o k=(List.range k).map fun j=>f (o+j):=by
 unfold pcL
 apply List.ext_getElem?
 intro i;unfold ZhU
 by_cases hi:i<k
 ·rw[List.getElem?_take_of_lt hi,List.getElem?_drop,YaR,YaR,List.getElem?_range (by omega),List.getElem?_range hi];simp only[Option.map_some];rw[if_neg (hd (o+i) (by omega) (by omega))]
 ·rw[YaN (by simp;omega),YaN (by simp;omega)]
theorem ZrN(lo hi:Int)(m q q':Nat)(h:q≠q')(i:Nat)(h1:(Zdb lo hi m q).1<=(i:Int)/\(i:Int)<(Zdb lo hi m q).2):¬((Zdb lo hi m q').1<=(i:Int)/\(i:Int)<(Zdb lo hi m q').2):=by
 unfold Zdb at h1 ⊢;dsimp only at h1 ⊢;intro h2
 rcases Nat.lt_or_gt_of_ne h with h3|h3
 ·have:=ZjJ (hi-lo).toNat (m:Int).toNat (q+1) q' h3;omega
 ·have:=ZjJ (hi-lo).toNat (m:Int).toNat (q'+1) q h3;omega
theorem Zlg(a m:Int)(hm:2<=m):a%m≠(a-1)%m:=by
 intro h;have h1:=Int.emod_add_mul_ediv a m;have h2:=Int.emod_add_mul_ediv (a-1) m;rw[h] at h1;have h3:m*(a/m-(a-1)/m)=1:=by rw[Int.mul_sub];omega
 have h4:m∣1:=⟨_,h3.symm⟩;have:=Int.le_of_dvd (by decide) h4;omega
theorem Zxi(c:PlC)(hm:2<=c.m)(w k:Nat):c.sq w k≠c.rq w k:=by
 unfold PlC.sq PlC.rq;have h1:=Zlg ((w:Int)-c.rd k+c.ph k) c.m (by omega);have z1:=Int.emod_nonneg ((w:Int)-c.rd k+c.ph k) (b:=(c.m:Int)) (by omega);have z2:=Int.emod_nonneg ((w:Int)-c.rd k+c.ph k-1) (b:=(c.m:Int)) (by omega);omega
section
variable{I:InC}
def Zug(I:InC)(k:Nat)(f:Nat->Nat->Int)(x:Nat):Nat->Int:=fun i=>if (I.mc 0).pc.ph k=0 then wrap64 (f x i+f (I.rg.pv x) i) else f (I.rg.pv x) i
theorem ZrO(t k j b:Nat)(F:Nat->Cr):stp I t (3,k,j,b) F=F:=by
 funext x
 unfold stp;exact if_pos rfl
theorem ZtF(hO:I.Ok){t k j:Nat}{lo hi:Int}(hk:k<2*((I.mc 0).pc.m-1))(hj:(I.mc 0).pc.bks[j]?=some (lo,hi)){F:Nat->Cr}{f:Nat->Nat->Int}(hF:∀x,x<I.rg.n->(F x).G=ZaN (f x) I.P):∀B x,x<I.rg.n ->
  Zgo I t (Zk5 k j B) F x={ F x with G:=ZhU (f x) (Zug I k f x) (Zdb lo hi (I.mc 0).pc.m ((I.mc 0).pc.rq x k)).1 (eeL ((I.mc 0).pc.chk j ((I.mc 0).pc.rq x k)) (Zdb lo hi (I.mc 0).pc.m ((I.mc 0).pc.rq x k)).2 B) I.P }:=by
 have hok:=InC.pc_ok hO;have hch:=InC.pc_ch hO;have hm2:2<=(I.mc 0).pc.m:=by omega
 obtain⟨b0,b1,b2⟩:=PlC.bks_in hj;have hPP:(I.mc 0).pc.P=I.P:=rfl;rw[hPP] at b2;have hchain:∀x,Zbk ((I.mc 0).pc.chk j ((I.mc 0).pc.rq x k)) (Zdb lo hi (I.mc 0).pc.m ((I.mc 0).pc.rq x k)).1 (Zdb lo hi (I.mc 0).pc.m ((I.mc 0).pc.rq x k)).2:=fun x=>by
  have hq:=(PlC.q_lt hok x k).2;obtain⟨a1,a2,a3⟩:=ZcA lo hi (I.mc 0).pc.m ((I.mc 0).pc.rq x k) b1 (by omega);unfold PlC.chk;rw[hj];exact ZfV _ _ _ a2 hch
 intro B
 induction B with
 |zero=>
  intro x hx
  show F x=_
  rw[ZrL (hchain x),Zry,<-hF x hx]
 |succ B ih=>
  intro x hx;have hpv:=Rg.pv_lt (Zd1 hok) x;have e1:Zk5 k j (B+1)=Zk5 k j B++[(3,k,j,B),(4,k,j,B)]:=by unfold Zk5;rw[List.range_succ,List.flatMap_append];simp
  have e2:Zgo I t (Zk5 k j (B+1)) F x=stp I t (4,k,j,B) (Zgo I t (Zk5 k j B) F) x:=by
   rw[e1,Zbv]
   show stp I t (4,k,j,B) (stp I t (3,k,j,B) (Zgo I t (Zk5 k j B) F)) x=_
   rw[ZrO]
  rw[e2];unfold stp;rw[if_neg (by show ¬(4:Nat)=3;decide),if_pos rfl];dsimp only
  cases hy:((I.mc 0).pc.chk j ((I.mc 0).pc.rq x k))[B]? with
  |none=>
   dsimp only;rw[ih x hx];have h1:eeL ((I.mc 0).pc.chk j ((I.mc 0).pc.rq x k)) (Zdb lo hi (I.mc 0).pc.m ((I.mc 0).pc.rq x k)).2 B=(Zdb lo hi (I.mc 0).pc.m ((I.mc 0).pc.rq x k)).2:=by unfold eeL;rw[hy]
   have h2:eeL ((I.mc 0).pc.chk j ((I.mc 0).pc.rq x k)) (Zdb lo hi (I.mc 0).pc.m ((I.mc 0).pc.rq x k)).2 (B+1)=(Zdb lo hi (I.mc 0).pc.m ((I.mc 0).pc.rq x k)).2:=by
    unfold eeL;rw[YaN (by have:=List.getElem?_eq_none_iff.1 hy;omega)]
   rw[h1,h2]
  |some y=>
   dsimp only;obtain⟨g1,g2,g3,g4,g5⟩:=ZmW (hchain x) B y hy;have hq:=PlC.q_lt hok x k;obtain⟨a1,a2,a3⟩:=ZcA lo hi (I.mc 0).pc.m ((I.mc 0).pc.rq x k) b1 (by omega);obtain⟨o,ho⟩:=YaM (show 0<=y.1 by omega);obtain⟨k',hk'⟩:=YaM (show 0<=y.2-y.1 by omega);have hok':o+k'<=I.P:=by omega
   have hto:y.1.toNat=o:=by omega
   have htk:(y.2-y.1).toNat=k':=by omega
   rw[ih x hx,ih _ hpv,g1,g2,hto,htk];dsimp only;have hsq:=Zts (I.mc 0).pc hok.m1 (I.rg.pv x) k;rw[Zwp hO hx] at hsq;have hne:(I.mc 0).pc.rq x k≠(I.mc 0).pc.rq (I.rg.pv x) k:=by rw[hsq];exact Zxi _ hm2 _ _
   rw[ZrM (f (I.rg.pv x)) _ _ _ _ o k' hok' (fun i h1 h2 h3=>ZrN lo hi (I.mc 0).pc.m _ _ hne i ⟨by omega,by omega⟩ ⟨h3.1,by have:=(Zxh (hchain (I.rg.pv x)) B).2;omega⟩)];rw[ho,show y.2=((o+k':Nat):Int) by omega]
   congr 1
   by_cases hp:(I.mc 0).pc.ph k=0
   ·have hn:∀i,Zug I k f x i=wrap64 (f x i+f (I.rg.pv x) i):=fun i=>by unfold Zug;rw[if_pos hp]
    unfold ZdF;rw[if_pos (by simpa using hp)];exact Ztz (f x) (f (I.rg.pv x)) (Zug I k f x) _ I.P o k' (by omega) hok' hn
   ·have hn:Zug I k f x=f (I.rg.pv x):=by funext i;unfold Zug;rw[if_neg hp]
    unfold ZdF;rw[if_neg (by simpa using hp),hn];exact Zrz (f x) (f (I.rg.pv x)) _ I.P o k' (by omega) hok'
end
theorem Zpe(f f1 new:Nat->Int)(a e:Int)(n:Nat)(h:∀i:Nat,f1 i=if a<=(i:Int)/\(i:Int)<e then new i else f i):ZaN f1 n=ZhU f new a e n:=by
 unfold ZaN ZhU
 apply List.map_congr_left
 intro i _;exact h i
def PlC.jof(c:PlC)(i:Nat):Nat:=c.nb-1-i/c.bu
theorem Zuh{c:PlC}(h:c.Ok){j:Nat}{y:Int×Int}(hy:c.bks[j]?=some y):j<c.nb/\y.1=(((c.nb-1-j)*c.bu:Nat):Int)/\y.2=(((c.nb-1-j)*c.bu+min c.bu (c.P-(c.nb-1-j)*c.bu):Nat):Int):=by
 have hj:j<c.nb:=by rw[<-PlC.bks_length];exact ZbH hy
 have hl:(Zat c.P c.bu).length=c.nb:=Zan _ _;unfold PlC.bks Zbc at hy;rw[List.getElem?_reverse (by rw[hl];exact hj),hl,YaA (by rw[hl];omega),Zch] at hy;injection hy with hy
 rw[<-hy];exact⟨hj,rfl,rfl⟩
theorem ZrP{c:PlC}(h:c.Ok){j i:Nat}{y:Int×Int}(hy:c.bks[j]?=some y)(h1:y.1<=(i:Int))(h2:(i:Int)<y.2):c.jof i=j:=by
 obtain⟨hj,e1,e2⟩:=Zuh h hy;have hb:=h.b1;have h3:(c.nb-1-j)*c.bu<=i:=by omega
 have h4:i<(c.nb-1-j+1)*c.bu:=by rw[Nat.add_mul,Nat.one_mul];omega
 have h5:i/c.bu=c.nb-1-j:=by
  apply Nat.le_antisymm
  ·have:=Nat.div_lt_of_lt_mul (m:=i) (n:=c.bu) (k:=c.nb-1-j+1) (by rw[Nat.mul_comm];exact h4);omega
  ·exact(Nat.le_div_iff_mul_le (by omega)).2 h3
 unfold PlC.jof;omega
theorem ZrQ{c:PlC}(h:c.Ok){i:Nat}(hi:i<c.P):c.jof i<c.nb/\∃y,c.bks[c.jof i]?=some y/\y.1<=(i:Int)/\(i:Int)<y.2:=by
 have hb:=h.b1;have hn:=PlC.nb_pos h;have hd:i/c.bu<c.nb:=by
  unfold PlC.nb;rw[Zdm _ _ h.p1 h.b1];exact Nat.lt_succ_of_le (Nat.div_le_div_right (by omega))
 have hj:c.jof i<c.nb:=by unfold PlC.jof;generalize i/c.bu=d at hd ⊢;omega
 obtain⟨y,hy⟩:=ZbY (l:=c.bks) (x:=c.jof i) (by rw[PlC.bks_length];exact hj);obtain⟨_,e1,e2⟩:=Zuh h hy;have e3:c.nb-1-c.jof i=i/c.bu:=by unfold PlC.jof;generalize i/c.bu=d at hd ⊢;omega
 rw[e3] at e1 e2;have h1:=Nat.div_add_mod i c.bu;have h2:=Nat.mod_lt i hb;rw[Nat.mul_comm] at h1;exact⟨hj,y,hy,by omega,by omega⟩
def rvK(I:InC)(z:Nat->Nat->Int)(κ:Nat->Nat)(x i:Nat):Int:=match (I.mc 0).pc.bks[(I.mc 0).pc.jof i]? with
 |some y=>rst y.1 y.2 (I.mc 0).pc.m z (κ ((I.mc 0).pc.jof i)) x i
 |none=>z x i
section
variable{I:InC}
theorem Zws(hO:I.Ok){x:Nat}(hx:x<I.rg.n):pwN (I.mc 0).pc.m x=I.rg.pv x:=by
 have h1:=Rg.pv_val (Zd1 (InC.pc_ok hO)) hx;have h2:=Zrv (I.mc 0).pc.m x hx;have:I.rg.n=(I.mc 0).pc.m:=rfl;omega
theorem Zvq(k:Nat):(I.mc 0).pc.ph k=0↔k/((I.mc 0).pc.m-1)=0:=by
 unfold PlC.ph;generalize k/((I.mc 0).pc.m-1)=a;omega
theorem ZtG(hO:I.Ok){t k j:Nat}{z:Nat->Nat->Int}{κ:Nat->Nat}(hk:k<2*((I.mc 0).pc.m-1))(hjn:j<(I.mc 0).pc.nb)(hκ:κ j=k){F:Nat->Cr}(hF:∀x,x<I.rg.n->(F x).G=ZaN (rvK I z κ x) I.P){x:Nat}(hx:x<I.rg.n) :
  Zgo I t (Zk5 k j 60) F x={ F x with G:=ZaN (rvK I z (Rg.upd κ j (k+1)) x) I.P }:=by
 have hok:=InC.pc_ok hO;obtain⟨⟨lo,hi⟩,hj⟩:=ZbY (l:=(I.mc 0).pc.bks) (x:=j) (by rw[PlC.bks_length];exact hjn);obtain⟨b0,b1,b2⟩:=PlC.bks_in hj;have hq:=(PlC.q_lt hok x k).2;obtain⟨a1,a2,a3⟩:=ZcA lo hi (I.mc 0).pc.m ((I.mc 0).pc.rq x k) b1 (by omega);rw[ZtF hO hk hj (f:=rvK I z κ) hF 60 x hx];have he:eeL ((I.mc 0).pc.chk j ((I.mc 0).pc.rq x k)) (Zdb lo hi (I.mc 0).pc.m ((I.mc 0).pc.rq x k)).2 60=(Zdb lo hi (I.mc 0).pc.m ((I.mc 0).pc.rq x k)).2:=by
  unfold eeL;rw[YaN (Zrk hok j _ hq)]
 rw[he]
 suffices hcur:ZhU (rvK I z κ x) (Zug I k (rvK I z κ) x) (Zdb lo hi (I.mc 0).pc.m ((I.mc 0).pc.rq x k)).1 (Zdb lo hi (I.mc 0).pc.m ((I.mc 0).pc.rq x k)).2 I.P=ZaN (rvK I z (Rg.upd κ j (k+1)) x) I.P by rw[hcur]
 refine(Zpe _ _ _ _ _ _ (fun i=>?_)).symm
 by_cases hji:(I.mc 0).pc.jof i=j
 ·have hv:∀(κ':Nat->Nat) (w:Nat),rvK I z κ' w i=rst lo hi (I.mc 0).pc.m z (κ' j) w i:=fun κ' w=>by
   unfold rvK;rw[hji,hj]
  unfold Zug;simp only[hv];rw[Rg.upd_same,hκ,rst,Zws hO hx];have hr:rqN (I.mc 0).pc.m (k/((I.mc 0).pc.m-1)) (k%((I.mc 0).pc.m-1)) x=(I.mc 0).pc.rq x k:=rfl;rw[hr];simp only[Zvq];rfl
 ·have hni:¬((Zdb lo hi (I.mc 0).pc.m ((I.mc 0).pc.rq x k)).1<=(i:Int)/\(i:Int)<(Zdb lo hi (I.mc 0).pc.m ((I.mc 0).pc.rq x k)).2):=fun h=>hji (ZrP hok hj (by dsimp only;omega) (by dsimp only;omega))
  rw[if_neg hni];unfold rvK;rw[Rg.upd_ne _ _ hji]
end
structure Vs(I:InC)(F:Nat->Cr)(z:Nat->Nat->Int)(κ:Nat->Nat)(P M:List Int)(rcd:List (List Int×List Int)):Prop where
 G:∀x,x<I.rg.n->(F x).G=ZaN (rvK I z κ x) I.P
 P:∀x,x<I.rg.n->(F x).P=P
 M:∀x,x<I.rg.n->(F x).M=M
 rcd:∀x,x<I.rg.n->(F x).rcd=rcd
section
variable{I:InC}{F:Nat→Cr}{z:Nat→Nat→Int}{κ:Nat→Nat}{P M:List Int}{rcd:List (List Int×List Int)}{t:Nat}
theorem Vs.job(hO:I.Ok)(h:Vs I F z κ P M rcd){k j:Nat}(hk:k<2*((I.mc 0).pc.m-1))(hj:j<(I.mc 0).pc.nb)(hκ:κ j=k):Vs I (Zgo I t (Zk5 k j 60) F) z (Rg.upd κ j (k+1)) P M rcd:=by
 have e:=fun x (hx:x<I.rg.n)=>ZtG (t:=t) hO hk hj hκ h.G hx
 exact⟨fun x hx=>by rw[e x hx],fun x hx=>by rw[e x hx];exact h.P x hx,fun x hx=>by rw[e x hx];exact h.M x hx,fun x hx=>by rw[e x hx];exact h.rcd x hx⟩
def Zsk(κ:Nat->Nat)(lo n k:Nat):Nat->Nat:=fun j=>if lo<=j/\j<lo+n then k else κ j
theorem Vs.congr{κ':Nat->Nat}(h:Vs I F z κ P M rcd)(e:∀j,κ j=κ' j):Vs I F z κ' P M rcd:=by
 have:κ=κ':=funext e;rw[<-this];exact h
theorem Vs.rnd(hO:I.Ok){lo k:Nat}(hk:k<2*((I.mc 0).pc.m-1)):∀(n:Nat) {F:Nat->Cr},lo+n<=(I.mc 0).pc.nb->(∀j,lo<=j->j<lo+n->κ j=k)->Vs I F z κ P M rcd->Vs I (Zgo I t (Zsi lo n 60 k) F) z (Zsk κ lo n (k+1)) P M rcd
 |0,F,_,_,h=>h.congr (fun j=>by unfold Zsk;rw[if_neg (by omega)])
 |n+1,F,hn,hκ,h=>by
  have ih:=Vs.rnd hO hk n (by omega) (fun j h1 h2=>hκ j h1 (by omega)) h;have e1:Zsi lo (n+1) 60 k=Zsi lo n 60 k++Zk5 k (lo+n) 60:=by unfold Zsi;rw[List.range_succ,List.flatMap_append];simp
  rw[e1,Zbv];refine(ih.job hO hk (show lo+n<_ by omega) (by unfold Zsk;rw[if_neg (by omega)];exact hκ _ (by omega) (by omega))).congr (fun j=>?_)
  by_cases e:j=lo+n
  ·rw[e,Rg.upd_same];unfold Zsk;rw[if_pos (by omega)]
  ·rw[Rg.upd_ne _ _ e];unfold Zsk
   by_cases h1:lo<=j/\j<lo+n
   ·rw[if_pos h1,if_pos (by omega)]
   ·rw[if_neg h1,if_neg (by omega)]
theorem Vs.rnds(hO:I.Ok){lo n:Nat}(hn:lo+n<=(I.mc 0).pc.nb)(hκ:∀j,lo<=j->j<lo+n->κ j=0)(h:Vs I F z κ P M rcd):∀K,K<=2*((I.mc 0).pc.m-1)->Vs I (Zgo I t ((List.range K).flatMap (Zsi lo n 60)) F) z (Zsk κ lo n K) P M rcd
 |0,_=>h.congr (fun j=>by
   unfold Zsk
   by_cases h1:lo<=j/\j<lo+n
   ·rw[if_pos h1];exact hκ j h1.1 h1.2
   ·rw[if_neg h1])
 |K+1,hK=>by
  have ih:=Vs.rnds hO hn hκ h K (by omega);rw[List.range_succ,List.flatMap_append,Zbv,List.flatMap_cons,List.flatMap_nil,List.append_nil];refine(Vs.rnd hO (show K<_ by omega) n hn (fun j h1 h2=>by unfold Zsk;rw[if_pos ⟨h1,h2⟩]) ih).congr (fun j=>?_);unfold Zsk
  by_cases h1:lo<=j/\j<lo+n
  ·rw[if_pos h1,if_pos h1]
  ·rw[if_neg h1,if_neg h1,if_neg h1]
theorem Vs.lau(h:Vs I F z κ P M rcd)(j:Nat):Vs I (stp I t (2,0,j,0) F) z κ P M rcd:=by
 have e:∀x,(stp I t (2,0,j,0) F x).G=(F x).G/\(stp I t (2,0,j,0) F x).P=(F x).P/\(stp I t (2,0,j,0) F x).M=(F x).M/\(stp I t (2,0,j,0) F x).rcd=(F x).rcd:=fun x=>by
  unfold stp;rw[if_neg (by show ¬(2:Nat)=3;decide),if_neg (by show ¬(2:Nat)=4;decide)];unfold Za1 Zb4;rw[if_neg (by show ¬((2:Nat):Int)=1;decide),if_pos (by show ((2:Nat):Int)=2;rfl)];exact⟨rfl,rfl,rfl,rfl⟩
 exact⟨fun x hx=>by rw[(e x).1];exact h.G x hx,fun x hx=>by rw[(e x).2.1];exact h.P x hx,fun x hx=>by rw[(e x).2.2.1];exact h.M x hx,fun x hx=>by rw[(e x).2.2.2];exact h.rcd x hx⟩
theorem Vs.laus(lo:Nat):∀(n:Nat) {F:Nat->Cr},Vs I F z κ P M rcd->Vs I (Zgo I t ((List.range n).map (fun i=>((2,0,lo+i,0):Sl4))) F) z κ P M rcd
 |0,F,h=>h
 |n+1,F,h=>by
  rw[List.range_succ,List.map_append,Zbv];exact(Vs.laus lo n h).lau _
end
def ZhY(I:InC)(z:Nat->Nat->Int)(i:Nat):Int:=wrap64 (Zeu (fun v=>z v i) (I.mc 0).pc.m)
def pD(I:InC)(p μ T:Nat->Int)(D:Nat->Bool)(i:Nat):Int:=if D ((I.mc 0).pc.jof i)=true then Zl5 I.c.ra I.c.sh (p i) (Zf2 I.c.mo I.c.sh (μ i) (T i)) else p i
def mD(I:InC)(μ T:Nat->Int)(D:Nat->Bool)(i:Nat):Int:=if D ((I.mc 0).pc.jof i)=true then Zf2 I.c.mo I.c.sh (μ i) (T i) else μ i
theorem ZiE(ra mo sh:Int)(f g:Nat->Int)(gs:List Int)(n lo k:Nat):Zbn ra mo sh (ZaN f n) (ZaN g n) gs lo k=ZaN (fun i=>if lo<=i/\i<lo+k then Zl5 ra sh (f i) (Zf2 mo sh (g i) (gs.getD (i-lo) 0)) else f i) n:=by
 apply List.ext_getElem?
 intro i;unfold Zbn ZaN;rw[List.getElem?_mapIdx,YaR,YaR]
 by_cases hi:i<n
 ·rw[List.getElem?_range hi];simp only[Option.map_some];rw[YaT,YaR,List.getElem?_range hi];rfl
 ·rw[YaN (by simp;omega)];rfl
theorem ZiF(mo sh:Int)(g:Nat->Int)(gs:List Int)(n lo k:Nat):Zbm mo sh (ZaN g n) gs lo k=ZaN (fun i=>if lo<=i/\i<lo+k then Zf2 mo sh (g i) (gs.getD (i-lo) 0) else g i) n:=by
 apply List.ext_getElem?
 intro i;unfold Zbm ZaN;rw[List.getElem?_mapIdx,YaR,YaR]
 by_cases hi:i<n
 ·rw[List.getElem?_range hi];rfl
 ·rw[YaN (by simp;omega)];rfl
def Zui(D:Nat->Bool)(j:Nat):Nat->Bool:=fun i=>if i=j then true else D i
section
variable{I:InC}{F:Nat→Cr}{z:Nat→Nat→Int}{κ:Nat→Nat}{p μ:Nat→Int}{rcd:List (List Int×List Int)}{t:Nat}{D:Nat→Bool}
theorem Zwt(hO:I.Ok)(hz:∀w i,-9223372036854775808<=z w i/\z w i<=9223372036854775807){j i x:Nat}{y:Int×Int}(hj:(I.mc 0).pc.bks[j]?=some y)(hκ:κ j=2*((I.mc 0).pc.m-1))(h1:y.1<=(i:Int))(h2:(i:Int)<y.2)(hx:x<I.rg.n):rvK I z κ x i=ZhY I z i:=by
 have hok:=InC.pc_ok hO;obtain⟨_,b1,_⟩:=PlC.bks_in hj;unfold rvK;rw[ZrP hok hj h1 h2,hj];dsimp only;rw[hκ,Zvk y.1 y.2 (I.mc 0).pc.m z hok.m1 b1 i x hx (fun w _=>hz w i),if_pos ⟨h1,h2⟩];rfl
theorem Vs.upd(hO:I.Ok)(hz:∀w i,-9223372036854775808<=z w i/\z w i<=9223372036854775807)(h:Vs I F z κ (ZaN (pD I p μ (ZhY I z) D) I.P) (ZaN (mD I μ (ZhY I z) D) I.P) rcd){j:Nat}(hj:j<(I.mc 0).pc.nb)(hκ:κ j=2*((I.mc 0).pc.m-1))(hD:D j=false) :
  Vs I (stp I t (5,0,j,0) F) z κ (ZaN (pD I p μ (ZhY I z) (Zui D j)) I.P) (ZaN (mD I μ (ZhY I z) (Zui D j)) I.P) rcd:=by
 have hok:=InC.pc_ok hO;obtain⟨⟨lo,hi⟩,hb⟩:=ZbY (l:=(I.mc 0).pc.bks) (x:=j) (by rw[PlC.bks_length];exact hj);obtain⟨b0,b1,b2⟩:=PlC.bks_in hb;have hPP:(I.mc 0).pc.P=I.P:=rfl;rw[hPP] at b2;dsimp only at b0 b1 b2;obtain⟨o,ho⟩:=YaM b0;obtain⟨k,hk⟩:=YaM (show 0<=hi-lo by omega);have e:∀x,stp I t (5,0,j,0) F x=⟨Zbn I.c.ra I.c.mo I.c.sh (F x).P (F x).M (pcL (F x).G o k) o k,Zbm I.c.mo I.c.sh (F x).M (pcL (F x).G o k) o k,(F x).G,(F x).rcd,ZcD (F x).opn (j:Int)⟩:=fun x=>by
  unfold stp;rw[if_neg (by show ¬(5:Nat)=3;decide),if_neg (by show ¬(5:Nat)=4;decide)];unfold Za1 Zb4;rw[if_neg (by show ¬((5:Nat):Int)=1;decide),if_neg (by show ¬((5:Nat):Int)=2;decide),if_pos (by show ((5:Nat):Int)=5;rfl)];dsimp only;rw[Int.toNat_natCast,show (I.mc x).pc.bks[j]?=some (lo,hi) from hb];dsimp only;rw[show lo.toNat=o by omega,show (hi-lo).toNat=k by omega];rfl
 have hgs:∀x,x<I.rg.n->pcL (F x).G o k=(List.range k).map fun i=>ZhY I z (o+i):=fun x hx=>by
  rw[h.G x hx];unfold pcL;rw[ZmU _ _ _ _ (by omega)]
  apply List.map_congr_left
  intro i hi';have:=List.mem_range.1 hi';exact Zwt hO hz hb hκ (by dsimp only;omega) (by dsimp only;omega) hx
 have hget:∀i,o<=i->i<o+k->((List.range k).map fun i=>ZhY I z (o+i)).getD (i-o) 0=ZhY I z i:=fun i h1 h2=>by
  rw[YaT,YaR,List.getElem?_range (by omega)];simp only[Option.map_some,Option.getD_some];rw[show o+(i-o)=i by omega]
 have hin:∀i,i<I.P->((o<=i/\i<o+k)↔(I.mc 0).pc.jof i=j):=fun i hiP=>by
  constructor
  ·rintro⟨h1,h2⟩;exact ZrP hok hb (by dsimp only;omega) (by dsimp only;omega)
  ·intro h1;obtain⟨_,y,hy,h2,h3⟩:=ZrQ hok (i:=i) (show i<(I.mc 0).pc.P from hiP);rw[h1,hb] at hy;injection hy with hy
   rw[<-hy] at h2 h3;dsimp only at h2 h3;omega
 refine⟨fun x hx=>by rw[e x];exact h.G x hx,fun x hx=>?_,fun x hx=>?_,fun x hx=>by rw[e x];exact h.rcd x hx⟩
 ·rw[e x,hgs x hx,h.P x hx,h.M x hx];dsimp only;rw[ZiE];unfold ZaN
  apply List.map_congr_left
  intro i hi';have hiP:=List.mem_range.1 hi'
  by_cases h1:o<=i/\i<o+k
  ·have h2:=(hin i hiP).1 h1;rw[if_pos h1,hget i h1.1 h1.2];unfold pD mD Zui;rw[h2,hD,if_neg (by decide),if_neg (by decide),if_pos rfl,if_pos rfl]
  ·have h2:(I.mc 0).pc.jof i≠j:=fun h3=>h1 ((hin i hiP).2 h3)
   rw[if_neg h1];unfold pD Zui;rw[if_neg h2]
 ·rw[e x,hgs x hx,h.M x hx];dsimp only;rw[ZiF];unfold ZaN
  apply List.map_congr_left
  intro i hi';have hiP:=List.mem_range.1 hi'
  by_cases h1:o<=i/\i<o+k
  ·have h2:=(hin i hiP).1 h1;rw[if_pos h1,hget i h1.1 h1.2];unfold mD Zui;rw[h2,hD,if_neg (by decide),if_pos rfl,if_pos rfl]
  ·have h2:(I.mc 0).pc.jof i≠j:=fun h3=>h1 ((hin i hiP).2 h3)
   rw[if_neg h1];unfold mD Zui;rw[if_neg h2]
end
def kD(I:InC)(d:Nat):Nat->Nat:=fun j=>if j<d then 2*((I.mc 0).pc.m-1) else 0
def bD(d:Nat):Nat->Bool:=fun j=>decide (j<d)
def ZwU(z:Nat->Nat->Int):Prop:=∀w i,-9223372036854775808<=z w i/\z w i<=9223372036854775807
def Vd(I:InC)(F:Nat->Cr)(z:Nat->Nat->Int)(p μ:Nat->Int)(rcd:List (List Int×List Int))(d:Nat):Prop:=
 Vs I F z (kD I d) (ZaN (pD I p μ (ZhY I z) (bD d)) I.P) (ZaN (mD I μ (ZhY I z) (bD d)) I.P) rcd
section
variable{I:InC}{F:Nat→Cr}{z:Nat→Nat→Int}{κ:Nat→Nat}{p μ:Nat→Int}{rcd:List (List Int×List Int)}{t:Nat}{D:Nat→Bool}
theorem Zvr(d n:Nat):Zui (bD (d+n)) (d+n)=bD (d+(n+1)):=by
 funext j
 unfold Zui bD
 by_cases h:j=d+n
 ·rw[if_pos h];symm;rw[decide_eq_true_eq];omega
 ·rw[if_neg h]
  by_cases h2:j<d+n
  ·rw[YaJ h2,YaJ (show j<d+(n+1) by omega)]
  ·rw[YaI h2,YaI (show ¬j<d+(n+1) by omega)]
theorem Vs.upds(hO:I.Ok)(hz:ZwU z){d:Nat}:∀(n:Nat) {F:Nat->Cr},d+n<=(I.mc 0).pc.nb->(∀j,d<=j->j<d+n->κ j=2*((I.mc 0).pc.m-1))->Vs I F z κ (ZaN (pD I p μ (ZhY I z) (bD d)) I.P) (ZaN (mD I μ (ZhY I z) (bD d)) I.P) rcd ->
  Vs I (Zgo I t ((List.range n).map (fun i=>((5,0,d+i,0):Sl4))) F) z κ (ZaN (pD I p μ (ZhY I z) (bD (d+n))) I.P) (ZaN (mD I μ (ZhY I z) (bD (d+n))) I.P) rcd
 |0,F,_,_,h=>h
 |n+1,F,hn,hκ,h=>by
  have ih:=Vs.upds hO hz n (by omega) (fun j h1 h2=>hκ j h1 (by omega)) h;rw[List.range_succ,List.map_append,Zbv];have:=ih.upd (t:=t) hO hz (j:=d+n) (by omega) (hκ _ (by omega) (by omega)) (by unfold bD;exact YaI (by omega));rw[Zvr] at this;exact this
theorem Vd.group(hO:I.Ok)(hz:ZwU z){d:Nat}(h:Vd I F z p μ rcd d){g:Int×Int}(h1:g.1=(d:Int))(h2:g.1<=g.2)(h3:g.2<=((I.mc 0).pc.nb:Int)):Vd I (Zgo I t ((I.mc 0).pc.grpS 60 g) F) z p μ rcd g.2.toNat:=by
 obtain⟨n,hn⟩:=YaM (show 0<=g.2-g.1 by omega);have e1:g.1.toNat=d:=by omega
 have e2:(g.2-g.1).toNat=n:=by omega
 have e3:g.2.toNat=d+n:=by omega
 unfold PlC.grpS;rw[e1,e2,e3,Zbv,Zbv];have a1:=Vs.laus (t:=t) d n h;have a2:=Vs.rnds (t:=t) hO (lo:=d) (n:=n) (by omega) (fun j h4 h5=>by unfold kD;rw[if_neg (by omega)]) a1 _ (YaF _);have a3:=a2.congr (κ':=kD I (d+n)) (fun j=>by
  unfold Zsk kD
  by_cases h4:d<=j/\j<d+n
  ·rw[if_pos h4,if_pos (by omega)]
  ·rw[if_neg h4]
   by_cases h5:j<d
   ·rw[if_pos h5,if_pos (by omega)]
   ·rw[if_neg h5,if_neg (by omega)])
 exact Vs.upds hO hz n (by omega) (fun j h4 h5=>by unfold kD;rw[if_pos (by omega)]) a3
theorem Vd.groups(hO:I.Ok)(hz:ZwU z):∀(l:List (Int×Int)) {F:Nat->Cr} {d:Nat} {e:Int},Zbk l (d:Int) e->e<=((I.mc 0).pc.nb:Int)->Vd I F z p μ rcd d->Vd I (Zgo I t (l.flatMap ((I.mc 0).pc.grpS 60)) F) z p μ rcd e.toNat
 |[],F,d,e,hc,he,h=>by
  unfold Zbk at hc;rw[<-hc,Int.toNat_natCast];exact h
 |g::l,F,d,e,hc,he,h=>by
  unfold Zbk at hc;obtain⟨h1,h2,h3⟩:=hc;have h4:=(Zfa h3).1;rw[List.flatMap_cons,Zbv];have:=h.group (t:=t) hO hz (g:=g) h1 (by omega) (by omega);refine Vd.groups hO hz l (d:=g.2.toNat) ?_ he this;rw[show ((g.2.toNat:Nat):Int)=g.2 by omega];exact h3
theorem Zpf{c:PlC}(h:c.Ok):Zbk c.grps 0 (c.nb:Int):=by
 have hn:=PlC.nb_pos h;have:=ZdH c.nb c.wi hn h.w1 (cnt c.nb c.wi) (YaF _);rw[YaX (by rw[Zan];exact YaF _)] at this;have e:min (cnt c.nb c.wi*c.wi) c.nb=c.nb:=by
  rw[Zdm _ _ hn h.w1,Nat.add_mul,Nat.one_mul];have h1:=Nat.div_add_mod (c.nb-1) c.wi;have h2:=Nat.mod_lt (c.nb-1) (show 0<c.wi from h.w1);rw[Nat.mul_comm] at h1;omega
 rw[e] at this;exact this
end
def Zpg(es:List ExS):Nat->Int
 |0=>0
 |k+1=>match es[k]? with
  |some s=>wrap64 (wrap64 (Zpg es k+if 1000<(s.1.2.1:Int) then 1000 else (s.1.2.1:Int))+if 1000<(s.2.2.1:Int) then 1000 else (s.2.2.1:Int))
  |none=>Zpg es k
def ZiG(es:List ExS)(m:Nat):Bool:=decide (m<=60) && decide (Zpg es (min m 100)<=600)
def ZtH(es:List ExS)(m:Nat)(w:World)(e:Ending)(w':World):Prop:=e=.returned (.bool (ZiG es m))/\Bz0 w w'
theorem ZrR(S:Option Addr)(m cS:Nat)(es:List ExS)(w:World)(hl:es.length=m)(h:Rd w 2 S m (exV es)) :
  Calls prog 227 #[.slice S m cS] w (ZtH es m w):=by
 have HL:=hid hl;have HR:=hid h;clear hl h
 go_enter func227,ntmps227
 go_wp2_with fail
 go_loopw [3,4] (fun o v wr=>∃(i:Nat) (z:Int),i<=m/\i<=100/\Zpg es i=z/\o=.int .i64 z/\v=.int .i64 i/\Bz0 w wr) (fun _ v _=>100-(intOf v).toNat)
 case atStart=>exact⟨0,0,by omega,by omega,rfl,rfl,rfl,bR0 _ _⟩
 case round=>
  obtain⟨i,z,him,hi,hz,rfl,rfl,hb⟩:=hrel;have HZ:=hid hz;clear hz
  by_cases hlt:i<m/\i<100
  ·obtain⟨h1,h2⟩:=hlt;obtain⟨s,hs⟩:∃s,es[i]?=some s:=⟨_,YaA (by rw[HL.out];exact h1)⟩;obtain⟨b5,o5,hA5,l5,q0,q1⟩:=Zq3 (HR.out.below hb) hs h1;have HB:=hid hb;have HA:=hid hA5;have H1:=hid h1;have H2:=hid h2;have r1:(0:Int)<=(i:Int):=by omega
   have r2:(i:Int)<(m:Int):=by omega
   have r3:(i:Int)<100:=by omega
   have HS:=hid hs;clear hb hA5 h1 h2 hs;rw[HA.out];go_wp2_with fail;go_region;obtain⟨z',hz'⟩:∃z',wrap64 (wrap64 (z+if 1000<(s.1.2.1:Int) then 1000 else (s.1.2.1:Int))+if 1000<(s.2.2.1:Int) then 1000 else (s.2.2.1:Int))=z':=⟨_,rfl⟩;rw[hz'];have hz2:Zpg es (i+1)=z':=by rw[Zpg,HS.out];simp only[];rw[HZ.out];exact hz'
   have HZ2:=hid hz2;clear hz' hz2;generalize wrap64 (z+if 1000<(s.1.2.1:Int) then 1000 else (s.1.2.1:Int))=z2;generalize (if 1000<(s.1.2.1:Int) then 1000 else (s.1.2.1:Int))=z3;generalize (if 1000<(s.2.2.1:Int) then 1000 else (s.2.2.1:Int))=z4;go_wp2_with fail;have h1:=H1.out;have h2:=H2.out;refine⟨⟨i+1,z',by omega,by omega,HZ2.out,rfl,rfl,HB.out.drew⟩,?_⟩;simp[intOf];omega
  ·have HB:=hid hb;clear hb;have fin:(60<m)\/m<=60:=by omega
   have fz:(z<=600)\/¬z<=600:=by omega
   have hmin:min m 100=i:=by
    by_cases h1:i<m
    ·have h2:¬i<100:=fun e=>hlt ⟨h1,e⟩
     omega
    ·omega
   have hF:ZiG es m=(decide (m<=60) && decide (z<=600)):=by rw[ZiG,hmin,HZ.out]
   have HF:=hid hF;clear hF hmin
   by_cases h1:i<m
   ·have h2:¬i<100:=fun e=>hlt ⟨h1,e⟩
    have r2:(i:Int)<(m:Int):=by omega
    have r3:¬(i:Int)<100:=by omega
    have r4:¬(m:Int)<=60:=by omega
    have H3:=hid (show ¬m<=60 by omega);have e4:decide ((m:Int)<=60)=false:=YaI r4;clear hlt h1 h2 him hi fin fz;go_wp2_with fail;go_ret;exact⟨Zao (by rw[HF.out,YaI H3.out];rfl),HB.out⟩
   ·have r2:¬(i:Int)<(m:Int):=by omega
    clear hlt h1 him hi
    rcases fin with f|f
    ·have e4:decide ((m:Int)<=60)=false:=YaI (by omega);have H3:=hid (show ¬m<=60 by omega);clear f;go_wp2_with fail;go_ret;exact⟨Zao (by rw[HF.out,YaI H3.out];rfl),HB.out⟩
    ·have e4:decide ((m:Int)<=60)=true:=YaJ (by omega);have F:=hid f;clear f
     rcases fz with f|f
     ·have e5:decide (z<=600)=true:=YaJ f;go_wp2_with fail;go_ret;exact⟨Zao (by rw[HF.out,e5,YaJ F.out];rfl),HB.out⟩
     ·have e5:decide (z<=600)=false:=YaI f;go_wp2_with fail;go_ret;exact⟨Zao (by rw[HF.out,e5,YaJ F.out];rfl),HB.out⟩
section
variable(A:Option Addr)(n cap:Nat)(c:Cfg)(S:Option Addr)(m cS:Nat)(es:List ExS)(AP:Option Addr)(P cP:Nat)(AD:Option Addr)(D cD:Nat)(w:World)
def Zfc(n:Nat)(es:List ExS)(m P D:Nat):Bool:=decide (n<=40) && (ZiG es m && (decide (P<=600) && decide (D<=2000)))
theorem ZrS{n:Nat}{es:List ExS}{m P D:Nat}(h:Zfc n es m P D=true):n<=40/\m<=60/\P<=600/\D<=2000:=by
 simp only[Zfc,ZiG,YaQ,decide_eq_true_eq] at h;exact⟨h.1,h.2.1.1,h.2.2.1,h.2.2.2⟩
def ZtI(n:Nat)(es:List ExS)(m P D:Nat)(w:World)(e:Ending)(w':World):Prop:=e=.returned (.bool (Zfc n es m P D))/\Bz0 w w'
theorem ZrT(hl:es.length=m)(h:Rd w 2 S m (exV es)) :
  Calls prog 178 #[inV A n cap c S m cS AP P cP AD D cD] w (ZtI n es m P D w):=by
 have HG:Hid (∀W,w.alloc (.cells (inC A n cap c S m cS AP P cP AD D cD) 29)=W->Below w.heap.size w W/\Blk W w.heap.size 29 (inC A n cap c S m cS AP P cP AD D cD)):=hid (by
  rintro W rfl;exact⟨bA0 _,Blk.new _ _ _⟩)
 have HC:=hid (fun W (r:Rd W 2 S m (exV es))=>ZrR S m cS es W hl r);have HR:=hid h;clear h hl
 by_cases h40:n<=40
 ·have e1:decide ((n:Int)<=40)=true:=YaJ (by omega);have H40:=hid h40;clear h40
  go_enter func178,ntmps178
  go_wp2_with fail;obtain⟨w0,hw0⟩:∃w0,w.alloc (.cells (inC A n cap c S m cS AP P cP AD D cD) 29)=w0:=⟨_,rfl⟩;obtain⟨hB,hK⟩:=HG.out _ hw0;rw[hw0];clear hw0 HG;have HB:=hid hB;have HK:=hid hK;((with_reducible refine(HC.out _ (HR.out.below hB)).mono ?_);rintro e w1 ⟨rfl,hb1⟩);obtain⟨b,hbt⟩:∃b,ZiG es m=b:=⟨_,rfl⟩;rw[hbt];have k1:=HK.out.kept hb1;have HB1:=hid (bT0 HB.out hb1);have HBT:=hid hbt;have c13:=cv13 k1;have c14:=cv14 k1;have lc:=k1.lt;clear hB hK hb1 k1 HB HK hbt HC HR;have fp:P<=600\/¬P<=600:=by omega
  have fd:D<=2000\/¬D<=2000:=by omega
  cases b
  ·clear fp fd;go_wp2_with fail;go_ret;exact⟨Zao (by rw[Zfc,HBT.out,YaJ H40.out];rfl),HB1.out⟩
  ·rcases fp with f|f
   ·have e2:decide ((P:Int)<=600)=true:=YaJ (by omega);have F:=hid f;clear f
    rcases fd with f|f
    ·have e3:decide ((D:Int)<=2000)=true:=YaJ (by omega);have F3:=hid f;clear f;go_wp2_with fail;go_ret;exact⟨Zao (by rw[Zfc,HBT.out,YaJ H40.out,YaJ F.out,YaJ F3.out];rfl),HB1.out⟩
    ·have e3:decide ((D:Int)<=2000)=false:=YaI (by omega);have F3:=hid f;clear f;go_wp2_with fail;go_ret;exact⟨Zao (by rw[Zfc,HBT.out,YaJ H40.out,YaJ F.out,YaI F3.out];rfl),HB1.out⟩
   ·have e2:decide ((P:Int)<=600)=false:=YaI (by omega);have F:=hid f;clear f fd;go_wp2_with fail;go_ret;exact⟨Zao (by rw[Zfc,HBT.out,YaJ H40.out,YaI F.out];rfl),HB1.out⟩
 ·have e1:decide ((n:Int)<=40)=false:=YaI (by omega);have H40:=hid h40;clear h40
  go_enter func178,ntmps178
  go_wp2_with fail;go_ret;exact⟨Zao (by rw[Zfc,YaI H40.out];rfl),bA0 _⟩
end
section
variable(A:Option Addr)(n cap:Nat)(l:List Int)(c:Cfg)(S:Option Addr)(m cS:Nat)(es:List ExS)(AP:Option Addr)(P cP:Nat)(AD:Option Addr)(D cD:Nat)(w:World)
theorem Zg7{l:List Int}{c:Cfg}(h:ZaO l c=true):l.length<=16/\ZaU l=false:=by
 simp only[ZaO,YaQ] at h;have h1:=h.2.2.1;simp only[ZaI,YaQ,decide_eq_true_eq,Bool.not_eq_true'] at h1;exact⟨h1.1.1.2,h1.1.2⟩
structure Few14(n m P D:Nat)(l:List Int)(c:Cfg):Prop where
 n40:n<=40
 m60:m<=60
 P600:P<=600
 D2000:D<=2000
 st:ZaO l c=true->c.st<=12
def ZtJ(n m P D:Nat)(l:List Int)(c:Cfg)(w:World)(e:Ending)(w':World):Prop:=∃b:Bool,e=.returned (.bool b)/\(b=true->Few14 n m P D l c)/\Bz0 w w'
theorem ZrU(hln:l.length=n)(hr:Rd w 1 A n (iv l))(hl:es.length=m)(h:Rd w 2 S m (exV es)) :
  Calls prog 95 #[inV A n cap c S m cS AP P cP AD D cD] w (ZtJ n m P D l c w):=by
 have HG:Hid (∀W,(w.alloc (.cells (inC A n cap c S m cS AP P cP AD D cD) 29)).alloc (.cells (ZfL A n cap c) 24)=W->Below w.heap.size w W/\Blk W w.heap.size 29 (inC A n cap c S m cS AP P cP AD D cD)/\Blk W (w.heap.size+1) 24 (ZfL A n cap c)):=hid (by
  rintro W rfl;exact⟨(bA0 _).alloc (by simp) _,(Blk.new _ _ _).alloc _,Blk.new' _ _ (by simp)⟩)
 have HF:=hid (fun W (r:Rd W 2 S m (exV es))=>ZrT A n cap c S m cS es AP P cP AD D cD W hl r);have HK:=hid (fun W (r:Rd W 1 A n (iv l)) (h40:n<=40)=>Zc2 A n cap l c W hln r (by omega));have HCT:=hid (fun W (r:Rd W 1 A n (iv l)) (ho:ZaO l c=true)=>Zbr A n cap l W hln r (by rw[<-hln];exact(Zg7 ho).1) (Zg7 ho).2);have HR:=hid h;have HQ:=hid hr;clear h hl hln hr
 go_enter func95,ntmps95
 go_wp2_with fail;obtain⟨w0,hw0⟩:∃w0,(w.alloc (.cells (inC A n cap c S m cS AP P cP AD D cD) 29)).alloc (.cells (ZfL A n cap c) 24)=w0:=⟨_,rfl⟩;obtain⟨hB,hI,hC⟩:=HG.out _ hw0;rw[hw0];clear hw0 HG;have HB:=hid hB;have HI:=hid hI;have HC:=hid hC;((with_reducible refine(HF.out _ (HR.out.below hB)).mono ?_);rintro e w1 ⟨rfl,hb1⟩);obtain⟨b,hbt⟩:∃b,Zfc n es m P D=b:=⟨_,rfl⟩;rw[hbt];have HB1:=hid (bT0 HB.out hb1);have HI1:=hid (HI.out.kept hb1);have HC1:=hid (HC.out.kept hb1);have HBT:=hid hbt;clear hB hI hC hbt hb1 HB HI HC
 cases b
 ·have k:=HI1.out;obtain⟨c0,c1,c2,c3,c4,c5,c6,c7,c8,c9,c10,c11,c12,c13,c14⟩:=cl15 k;have lc:=k.lt;clear k;go_wp2_with fail;clear c0 c1 c2 c3 c4 c5 c6 c7 c8 c9 c10 c11 c12 c13 c14 lc;((with_reducible refine(HF.out _ (HR.out.below HB1.out)).mono ?_);rintro e w2 ⟨rfl,hb2⟩);rw[HBT.out];have HB2:=hid (bT0 HB1.out hb2);clear hb2;go_wp2_with fail;go_ret;exact⟨false,rfl,fun e=>by simp at e,HB2.out⟩
 ·have k:=HC1.out;obtain⟨c0,c1,c2,c3,c4,c5,c6,c7,c8,c9,c10,c11⟩:=cl12 k;have lc:=k.lt;clear k;go_wp2_with fail;clear c0 c1 c2 c3 c4 c5 c6 c7 c8 c9 c10 c11 lc;have hle:=ZrS HBT.out;((with_reducible refine(HK.out _ (HQ.out.below HB1.out) hle.1).mono ?_);rintro e w2 ⟨cd,rfl,hcd,hb2⟩);have HLE:=hid hle;have HCD:=hid hcd;have HB2:=hid (bT0 HB1.out hb2);have HI2:=hid (HI1.out.kept hb2);have HC2:=hid (HC1.out.kept hb2);clear hle hcd hb2
  by_cases h0:cd=0
  ·subst h0;have HO:=hid (HCD.out.1 rfl);have k:=HC2.out;have c0:=cv0 k;have c5:=cv5 k;have c7:=cv7 k;have lc:=k.lt;clear k
   by_cases f1:c.st<=12
   ·have g1:decide (c.st<=12)=true:=YaJ f1;have F1:=hid f1;clear f1;go_wp2_with fail;((with_reducible refine(HCT.out w2 (HQ.out.below HB2.out) HO.out).mono ?_);rintro e w3 ⟨rfl,hb3⟩);have HB3:=hid (bT0 HB2.out hb3);have c5':w3.cell? ⟨w.heap.size+1,5,none⟩=some (.int .i64 c.ba):=(HC2.out.kept hb3).cell 5;have lc':=(HC2.out.kept hb3).lt;obtain⟨ct,hct⟩:∃ct,Zbp l (n-1)=ct:=⟨_,rfl⟩;rw[hct];clear hb3 hct c0 c5 c7 lc
    by_cases f2:ct<=150
    ·have g2:decide (ct<=150)=true:=YaJ f2
     by_cases f3:c.ba<=40
     ·have g3:decide (c.ba<=40)=true:=YaJ f3;clear f2 f3;go_wp2_with fail;go_ret;exact⟨_,rfl,fun _=>⟨HLE.out.1,HLE.out.2.1,HLE.out.2.2.1,HLE.out.2.2.2,fun _=>F1.out⟩,HB3.out⟩
     ·have g3:decide (c.ba<=40)=false:=YaI f3;clear f2 f3;go_wp2_with fail;go_ret;exact⟨_,rfl,fun _=>⟨HLE.out.1,HLE.out.2.1,HLE.out.2.2.1,HLE.out.2.2.2,fun _=>F1.out⟩,HB3.out⟩
    ·have g2:decide (ct<=150)=false:=YaI f2;clear f2;go_wp2_with fail;go_ret;exact⟨_,rfl,fun _=>⟨HLE.out.1,HLE.out.2.1,HLE.out.2.2.1,HLE.out.2.2.2,fun _=>F1.out⟩,HB3.out⟩
   ·have g1:decide (c.st<=12)=false:=YaI f1;clear f1;go_wp2_with fail;go_ret;exact⟨_,rfl,fun e=>by simp at e,HB2.out⟩
  ·have hno:ZaO l c=false:=by
    cases hh:ZaO l c with
    |false=>rfl
    |true=>exact absurd (HCD.out.2 hh) h0
   have HNO:=hid hno;have e5:(cd==0)=false:=by simp[h0]
   have k:=HI2.out;obtain⟨c0,c1,c2,c3,c4,c5,c6,c7,c8,c9,c10,c11,c12,c13,c14⟩:=cl15 k;have lc:=k.lt;clear k hno;go_wp2_with fail;clear c0 c1 c2 c3 c4 c5 c6 c7 c8 c9 c10 c11 c12 c13 c14 lc;((with_reducible refine(HF.out _ (HR.out.below HB2.out)).mono ?_);rintro e w3 ⟨rfl,hb3⟩);rw[HBT.out];have HB3:=hid (bT0 HB2.out hb3);clear hb3;go_wp2_with fail;go_ret;exact⟨_,rfl,fun _=>⟨HLE.out.1,HLE.out.2.1,HLE.out.2.2.1,HLE.out.2.2.2,fun e=>by rw[HNO.out] at e;cases e⟩,HB3.out⟩
theorem ZiH:Calls prog 70 #[inV A n cap c S m cS AP P cP AD D cD] w fun e w'=>e=.returned (ZnJ A n cap c P)/\Bz0 w w':=by
 go_enter func70,ntmps70
 go_wp2_with fail
 (try simp only[Exit.inBlock,Exit.then])
 refine bodyPost_ret (results_cell_row rfl _ _ (w.heap.size+1) _ _ (0,0) _ rfl (Blk.new' _ _ (by simp)) underlying172 rfl (by kernel_rfl)) rfl ?_;exact⟨rfl,(bA0 _).alloc (by simp) _⟩
end
