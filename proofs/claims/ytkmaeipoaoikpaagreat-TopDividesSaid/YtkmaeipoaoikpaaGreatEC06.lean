/- Lemmas. -/
import Derived.Test.YtkmaeipoaoikpaaGreatEC05
namespace Go.Proofs.YtkmaeipoaoikpaaGreat
set_option linter.all false
set_option maxRecDepth 100000
set_option maxHeartbeats 4000000
open Lib (hid)
open Go.RowKit
open Tryz
theorem Zqd(mo sh:Int)(Ms gs:List Int)(k:Nat)(m g:Int)(hm:Ms[k]?=some m)(hg:gs[k]?=some g):(ZgA mo sh Ms gs)[k]?=some (Zf2 mo sh m g):=by
 have hlt:=(YaG.1 hm).1;rw[ZgA,ZbR,hm];simp[hg,hlt]
theorem Zqe(ra mo sh:Int)(Ps Ms gs:List Int)(k:Nat)(p m g:Int)(hp:Ps[k]?=some p)(hm:Ms[k]?=some m)(hg:gs[k]?=some g):(Zf3 ra mo sh Ps Ms gs)[k]?=some (Zl5 ra sh p (Zf2 mo sh m g)):=by
 have hlt:=(YaG.1 hp).1;rw[Zf3,ZbS,hp];simp[hg,hm,hlt]
theorem Zkn(mo sh:Int)(Ms gs:List Int):(ZgA mo sh Ms gs).length=Ms.length:=Zcb _ _ _ _ _ _
theorem Zko(ra mo sh:Int)(Ps Ms gs:List Int):(Zf3 ra mo sh Ps Ms gs).length=Ps.length:=Zcc _ _ _ _ _ _ _ _
theorem ZeP(l:List Int)(k:Nat)(x:Int)(h:l[k]?=some x):iv (l.take (k+1))=iv (l.take k)++[.int .i64 x]:=by
 obtain⟨hk,hx⟩:=YaG.1 h;rw[List.take_succ_eq_append_getElem hk,Zbq,hx];rfl
theorem ZeQ(x:Int):∀u∈(#[Value.int .i64 x]:Array Value).toList,u.oneCell'=true:=by
 intro u hu;simp at hu;subst hu;rfl
theorem Zt5(x:Int):IntKind.i64.wrap x=wrap64 x:=by rw[IntKind.wrap_i64];unfold wrap64;omega
theorem ZuL{w:World}{v:Nat}{t:TypeId}{x y:Value}(h:Blk w v t #[x,y])(b:Value):w.grownBy (w.setCell ⟨v,1,none⟩ b) (some v)/\Blk (w.setCell ⟨v,1,none⟩ b) v t #[x,b]:=
 ⟨Zak (p:=⟨v,1,none⟩) (World.grownBy.refl w _) (.inl rfl) b,by simpa using h.set_ 1 b⟩
theorem ZuM{w:World}{v:Nat}{t:TypeId}{x y:Value}(h:Blk w v t #[x,y])(b:Value):w.grownBy (w.setCell ⟨v,0,none⟩ b) (some v)/\Blk (w.setCell ⟨v,0,none⟩ b) v t #[b,y]:=
 ⟨Zak (p:=⟨v,0,none⟩) (World.grownBy.refl w _) (.inl rfl) b,by simpa using h.set_ 0 b⟩
theorem Zqf{w w':World}{base:Nat}{e:TypeId}{size n:Nat}{v u:Value}{xs:List Value}(h:w.ownsRow base e size v n xs)(hg:w.grownBy w' u.ownBlock)(hne:∀g,v.ownBlock=some g->u.ownBlock≠some g):w'.ownsRow base e size v n xs:=by
 refine h.kept hg ?_
 cases hv:v.ownBlock with
 |none=>exact .inl rfl
 |some g=>exact .inr (fun e=>hne g hv e.symm)
def Zw6(wr:World)(b base i j:Nat)(t:TypeId)(P M:List Int):Prop:=
 ∃AP cP AM cM,Blk wr b t #[.slice AP i cP,.slice AM j cM]/\wr.ownsRow base 2 1 (.slice AP i cP) i (iv P)/\wr.ownsRow base 2 1 (.slice AM j cM) j (iv M)/\(∀g,(Value.slice AP i cP).ownBlock=some g->(Value.slice AM j cM).ownBlock≠some g)
theorem ZhA(ra mo sh:Int)(A B AG:Option Addr)(N c d cG:Nat)(Ps Ms gs:List Int)(w:World)(hPl:Ps.length=N)(hMl:Ms.length=N)(hgl:gs.length=N)(hP:Rd w 1 A N (iv Ps))(hM:Rd w 1 B N (iv Ms))(hG:Rd w 1 AG N (iv gs))(hN:N<=1000000)
  (hra:In1 ra) (hmo:In1 mo) (hPi:Zaw Ps) (hMi:Zaw Ms) :
  Calls prog 73 #[.agg #[.int .i64 ra,.int .i64 mo,.int .i64 sh],.agg #[.slice A N c,.slice B N d],.slice AG N cG] w fun e w'=>∃AP cP AM cM,e=.returned (.tuple #[.agg #[.slice AP N cP,.slice AM N cM],.bool true]) /\
   w'.ownsRow w.heap.size 2 1 (.slice AP N cP) N (iv (Zf3 ra mo sh Ps Ms gs))/\w'.ownsRow w.heap.size 2 1 (.slice AM N cM) N (iv (ZgA mo sh Ms gs))/\Below w.heap.size w w':=by
 have HP:=hid hP;have HM:=hid hM;have HG:=hid hG;have HPL:=hid hPl;have HML:=hid hMl;have HGL:=hid hgl;have HPi:=hid hPi;have HMi:=hid hMi;clear hP hM hG hPl hMl hgl hPi hMi
 go_enter func73,ntmps73
 go_wp2_with fail
 go_loopw [9] (fun i wr=>∃k:Nat,k<=N/\i=.int .i64 k/\Below w.heap.size w wr/\Blk wr w.heap.size 180 #[.int .i64 ra,.int .i64 mo,.int .i64 sh]/\Blk wr (w.heap.size+1) 176 #[.slice A N c,.slice B N d]/\Blk wr (w.heap.size+1+1) 176 #[.slice none 0 0,.slice none 0 0] /\
   Zw6 wr (w.heap.size+1+1+1) w.heap.size k k 176 ((Zf3 ra mo sh Ps Ms gs).take k) ((ZgA mo sh Ms gs).take k)) (fun i _=>N-(intOf i).toNat)
 case atStart=>
  refine⟨0,by omega,rfl,(((bA0 _).alloc (by simp) _).alloc (by simp<;>omega) _).alloc (by simp<;>omega) _,(((Blk.new w _ _).alloc _).alloc _).alloc _,((Blk.new' _ _ (by simp)).alloc _).alloc _,(Blk.new' _ _ (by simp)).alloc _,none,0,none,0,Blk.new' _ _ (by simp),?_,?_,fun g h=>by simp[Value.ownBlock] at h⟩
  ·simpa [iv] using World.ownsRow_nil _ _ _ _
  ·simpa [iv] using World.ownsRow_nil _ _ _ _
 case round=>
  obtain⟨k,hk,rfl,hB,hR,hS,hZ,AP,cP,AM,cM,hQ,hOP,hOM,hne⟩:=hrel
  by_cases hlt:k<N
  ·obtain⟨b1,o1,p,hA,hbl1,hp,cp⟩:=Zb7 HPL.out (HP.out.below hB) hlt;obtain⟨b2,o2,m,hBe,hbl2,hm,cm⟩:=Zb7 HML.out (HM.out.below hB) hlt;obtain⟨b3,o3,g,hGe,hbl3,hg,cg⟩:=Zb7 HGL.out (HG.out.below hB) hlt;subst hA hBe hGe;have iP:=HPi.out p (YaL hp);have iM:=HMi.out m (YaL hm);obtain⟨x,hx⟩:∃x,Zd5 mo m sh=x:=⟨_,rfl⟩;obtain⟨m',hm'⟩:∃m',Zf2 mo sh m g=m':=⟨_,rfl⟩;obtain⟨y,hy⟩:∃y,Zd5 ra m' sh=y:=⟨_,rfl⟩;obtain⟨p',hp'⟩:∃p',Zl5 ra sh p m'=p':=⟨_,rfl⟩;have C1:=(fun W=>Zcl mo m sh W hmo iM);have C2:=(fun W=>Zcl ra m' sh W hra (by rw[<-hm'];exact Zl6 _ _ _ _));simp only[hx] at C1;simp only[hy] at C2;have HC1:=hid C1;have HC2:=hid C2;have zx:IntKind.i64.wrap (x+g)=m':=by rw[Zt5,<-hm',Zf2,hx]
   have zy:IntKind.i64.wrap (p-y)=p':=by rw[Zt5,<-hp',Zl5,hy]
   have HTP:=hid (ZeP _ k _ (Zqe ra mo sh Ps Ms gs k p m g hp hm hg));have HTM:=hid (ZeP _ k _ (Zqd mo sh Ms gs k m g hm hg));have HM':=hid hm';have HP':=hid hp';have HPk:=hid hp;clear C1 C2 hx hy hm' hp' hp hm hg;have r0:wr.cell? ⟨w.heap.size,0,none⟩=some (.int .i64 ra):=hR.cell 0;have r1:wr.cell? ⟨w.heap.size,1,none⟩=some (.int .i64 mo):=hR.cell 1;have r2:wr.cell? ⟨w.heap.size,2,none⟩=some (.int .i64 sh):=hR.cell 2;have t0:wr.cell? ⟨w.heap.size+1,0,none⟩=some (.slice (some ⟨b1,o1,none⟩) N c):=hS.cell 0;have t1:wr.cell? ⟨w.heap.size+1,1,none⟩=some (.slice (some ⟨b2,o2,none⟩) N d):=hS.cell 1;have q0:wr.cell? ⟨w.heap.size+1+1+1,0,none⟩=some (.slice AP k cP):=hQ.cell 0;have q1:wr.cell? ⟨w.heap.size+1+1+1,1,none⟩=some (.slice AM k cM):=hQ.cell 1;have fq:=hQ.frozen 1;have i1:(0:Int)<=(k:Int):=by omega
   have i2:(k:Int)<(N:Int):=by omega
   have hws:=hB.size;have HB:=hid hB;have HR:=hid hR;have HS:=hid hS;have HZ:=hid hZ;have HQ:=hid hQ;have HOP:=hid hOP;have HOM:=hid hOM;have HNE:=hid hne;clear hB hR hS hZ hQ hOP hOM hne;go_wp2_with fail
   go_quiet ((go_at_call 159;exact Zh7 (HC1.out _)))
   clear zx
   go_wp2_with (at_builtin;go_must (refine Zaj ZeL rfl _ _ rfl w.heap.size _ k (iv ((ZgA mo sh Ms gs).take k)) rfl (ZbB HOM.out _) #[.int .i64 m'] wr.heap.size rfl rfl rfl (ZeQ _) (by unfold maxLen;omega) (by omega) hws ?_);intro A1 c1 w1 hown1 hb1 hgr1 hat1;(have HQ1:=hid ((HQ.out.drewN nq).other (ZbB HOM.out nq) hgr1 (by decide)));(have u0:w1.cell? ⟨w.heap.size+1+1+1,0,none⟩=some (.slice AP k cP):=HQ1.out.cell 0);(have u1:w1.cell? ⟨w.heap.size+1+1+1,1,none⟩=some (.slice AM k cM):=HQ1.out.cell 1);(have fu:=HQ1.out.frozen 1))
   have hst:=ZuL HQ1.out (.slice A1 (k+1) c1);obtain⟨w2,hw2⟩:∃w2,w1.setCell ⟨w.heap.size+1+1+1,1,none⟩ (.slice A1 (k+1) c1)=w2:=⟨_,rfl⟩;rw[hw2] at hst ⊢;have hOP1:=Zqf (ZbB HOP.out nq) hgr1 HNE.out;have hOP2:=hOP1.kept hst.1 (.inr (Zab hOP1 HQ1.out (by decide)));have hOM2:=hown1.kept hst.1 (.inr (Zab hown1 HQ1.out (by decide)));have hR2:=((HR.out.drewN nq).other (ZbB HOM.out nq) hgr1 (by decide)).grown hst.1 (by simp<;>omega);have hS2:=((HS.out.drewN nq).other (ZbB HOM.out nq) hgr1 (by decide)).grown hst.1 (by simp<;>omega);have hZ2:=((HZ.out.drewN nq).other (ZbB HOM.out nq) hgr1 (by decide)).grown hst.1 (by simp);have hB2:Below w.heap.size w w2:=Zai ((below_drewN HB.out nq).trans hb1) (by have h1:=HB.out.size;have h2:=hb1.size;simp at h2;omega) hst.1 (by omega);have hne2:∀g,(Value.slice AP k cP).ownBlock=some g->(Value.slice A1 (k+1) c1).ownBlock≠some g:=fun g hg h1=>by
    rcases hat1 g h1 with h2|h2
    ·exact HNE.out g hg h2
    ·have h3:=(HOP.out.lt g hg).2;simp at h2;omega
   have cp2:w2.cell? ⟨b1,o1+k,none⟩=some (.int .i64 p):=by
    obtain⟨b1',o1',p'',hA',_,hp'',cp''⟩:=Zb7 HPL.out (HP.out.below hB2) hlt;injection hA' with hA'
    injection hA' with e1 e2
    subst e1 e2;rw[HPk.out] at hp'';injection hp'' with hp''
    rw[hp''];exact cp''
   have v0:w2.cell? ⟨w.heap.size,0,none⟩=some (.int .i64 ra):=hR2.cell 0;have v2:w2.cell? ⟨w.heap.size,2,none⟩=some (.int .i64 sh):=hR2.cell 2;have s0:w2.cell? ⟨w.heap.size+1,0,none⟩=some (.slice (some ⟨b1,o1,none⟩) N c):=hS2.cell 0;have x0:w2.cell? ⟨w.heap.size+1+1+1,0,none⟩=some (.slice AP k cP):=hst.2.cell 0;have l1:=hR2.lt;have l2:=hS2.lt;have l3:=hst.2.lt;have l4:b1<w2.heap.size:=by have:=HP.out.lt b1 o1 rfl (by omega);have:=hB2.size;omega
   have hw2s:=hB2.size;have HB2:=hid hB2;have HR2:=hid hR2;have HS2:=hid hS2;have HZ2:=hid hZ2;have HQ2:=hid hst.2;have HOP2:=hid hOP2;have HOM2:=hid hOM2;have HNE2:=hid hne2;clear hst hw2 hOP1 hOP2 hOM2 hR2 hS2 hZ2 hB2 hne2 hown1 hb1 hgr1 hat1 u0 u1 fu r0 r1 r2 t0 t1 q0 q1 fq cp cm cg HB HR HS HZ HQ HQ1 HOP HOM HNE;refine Zad (Zag w2) [0,1,2,3,4,5,6,7,8,9,10,11] [12,13,14] [15,16,17] (by kernel_rfl) (by kernel_rfl) (Zag.start w2) ?_;simp only[YaO,YaP,YaB,YaC];refine Zaa (.pointer (some ⟨w.heap.size+1+1+1,0,none⟩)) rfl (fun W hW=>?_) ?_
   ·obtain⟨hc,-,-⟩:=hW;go_simp
   go_simp;refine Zaa (.slice AP k cP) rfl (fun W hW=>?_) ?_
   ·obtain⟨hc,-,-⟩:=hW;go_simp
   go_simp;refine Zaa (.pointer (some ⟨w.heap.size+1,0,none⟩)) rfl (fun W hW=>?_) ?_
   ·obtain⟨hc,-,-⟩:=hW;go_simp
   go_simp;refine Zaa (.slice (some ⟨b1,o1,none⟩) N c) rfl (fun W hW=>?_) ?_
   ·obtain⟨hc,-,-⟩:=hW;go_simp
   go_simp;refine Zaa (.int .i64 k) rfl (fun W hW=>?_) ?_
   ·obtain⟨hc,-,-⟩:=hW;go_simp
   go_simp;refine Zaa (.pointer (some ⟨b1,o1+k,none⟩)) rfl (fun W hW=>?_) ?_
   ·obtain⟨hc,-,-⟩:=hW;go_simp
   go_simp;refine Zaa (.int .i64 p) rfl (fun W hW=>?_) ?_
   ·obtain⟨hc,-,-⟩:=hW;go_simp
   go_simp;refine Zaa (.pointer (some ⟨w.heap.size,0,none⟩)) rfl (fun W hW=>?_) ?_
   ·obtain⟨hc,-,-⟩:=hW;go_simp
   go_simp;refine Zaa (.int .i64 ra) rfl (fun W hW=>?_) ?_
   ·obtain⟨hc,-,-⟩:=hW;go_simp
   go_simp;refine Zaa (.int .i64 m') rfl (fun W hW=>?_) ?_
   ·obtain⟨hc,-,-⟩:=hW;go_simp
   go_simp;refine Zaa (.pointer (some ⟨w.heap.size,2,none⟩)) rfl (fun W hW=>?_) ?_
   ·obtain⟨hc,-,-⟩:=hW;go_simp
   go_simp;refine Zaa (.int .i64 sh) rfl (fun W hW=>?_) ?_
   ·obtain⟨hc,-,-⟩:=hW;go_simp
   go_simp;change Zah _ _ _ _ _ (_::_::_::[]) _ _;unfold Zah;go_wp2_with fail;((with_reducible refine(HC2.out _).mono ?_);rintro e w3 ⟨rfl,rfl⟩);go_wp2_with fail;refine⟨Zag.start w2,?_⟩;unfold Zah;go_wp2_with fail;refine⟨Zag.start w2,?_⟩;unfold Zah;go_wp2_with fail;refine⟨(Zag.start w2).alloc _,?_⟩;unfold Zah;clear zy v0 v2 s0 x0 cp2;change wpList _ _ _ (_::_::_::[]) _ (w2.drew.alloc (.cells #[.int .i64 p'] 2));have HQ3:Hid (Blk w2.drew (w.heap.size+1+1+1) 176 #[.slice AP k cP,.slice A1 (k+1) c1]):=hid HQ2.out.drew;have HOP3:Hid (w2.drew.ownsRow w.heap.size 2 1 (.slice AP k cP) k (iv ((Zf3 ra mo sh Ps Ms gs).take k))):=hid HOP2.out;have HK3:Hid (Below w2.heap.size w2 w2.drew):=hid (bR0 _ _).drew
   go_wp2_with (at_builtin;go_must (refine Zaj ZeL rfl _ _ rfl w.heap.size _ k (iv ((Zf3 ra mo sh Ps Ms gs).take k)) rfl HOP3.out #[.int .i64 p'] w2.heap.size rfl rfl rfl (ZeQ _) (by unfold maxLen;omega) (by omega) hw2s ?_);intro A3 c3 w4 hown4 hb4 hgr4 hat4;(have HQ4:=hid (HQ3.out.other HOP3.out hgr4 (by decide)));(have u0:w4.cell? ⟨w.heap.size+1+1+1,0,none⟩=some (.slice AP k cP):=HQ4.out.cell 0);(have fu:=HQ4.out.frozen 0))
   refine NoPanic.normal ?_;go_wp2;have hst:=ZuM HQ4.out (.slice A3 (k+1) c3);have hOM3:=Zac HOM2.out HK3.out;have hOM4:=Zqf hOM3 hgr4 (fun g hg h=>HNE2.out g h hg)
   go_roundw
   case rel=>
    refine⟨k+1,by omega,by go_num,Zai (HB2.out.trans ((HK3.out.mono hw2s).trans hb4)) (by have h9:w2.heap.size<=w4.heap.size:=hb4.size;omega) hst.1 (by omega),((HR2.out.kept HK3.out).other HOP3.out hgr4 (by decide)).grown hst.1 (by simp<;>omega),((HS2.out.kept HK3.out).other HOP3.out hgr4 (by decide)).grown hst.1 (by simp<;>omega),((HZ2.out.kept HK3.out).other HOP3.out hgr4 (by decide)).grown hst.1 (by simp),A3,c3,A1,c1,hst.2,?_,?_,?_⟩
    ·rw[HTP.out,HM'.out,HP'.out];exact hown4.kept hst.1 (.inr (Zab hown4 HQ4.out (by decide)))
    ·rw[HTM.out,HM'.out];exact hOM4.kept hst.1 (.inr (Zab hOM4 HQ4.out (by decide)))
    ·intro g hg h1
     rcases hat4 g hg with h2|h2
     ·exact HNE2.out g h2 h1
     ·have h3:=(hOM3.lt g h1).2;simp at h2 h3;omega
   case measure=>simp[intOf];omega
  ·obtain rfl:k=N:=by omega
   have z0:wr.cell? ⟨w.heap.size+1+1,0,none⟩=some (.slice none 0 0):=hZ.cell 0;have z1:wr.cell? ⟨w.heap.size+1+1,1,none⟩=some (.slice none 0 0):=hZ.cell 1;have q0:wr.cell? ⟨w.heap.size+1+1+1,0,none⟩=some (.slice AP k cP):=hQ.cell 0;have q1:wr.cell? ⟨w.heap.size+1+1+1,1,none⟩=some (.slice AM k cM):=hQ.cell 1;have f0:=hZ.frozen 0;have f1:=hZ.frozen 1;have hws:=hB.size;have HB:=hid hB;have HZ:=hid hZ;have HOP:=hid hOP;have HOM:=hid hOM;clear hB hR hS hZ hQ hOP hOM hne;go_wp2;have hst:=Za9 HZ.out (.slice AP k cP) (.slice AM k cM);refine bodyPost_ret (v:=.tuple #[.agg #[.slice AP k cP,.slice AM k cM],.bool true]) (by simp[results,results73,go_sem,z0,z1]) rfl ⟨AP,cP,AM,cM,rfl,?_,?_,Zai HB.out hws hst.1 (by omega)⟩
   ·have:=HOP.out.kept hst.1 (.inr (Zab HOP.out HZ.out (by decide)))
    rwa [YaX (by rw[Zko,HPL.out];omega)] at this
   ·have:=HOM.out.kept hst.1 (.inr (Zab HOM.out HZ.out (by decide)))
    rwa [YaX (by rw[Zkn,HML.out];omega)] at this
def Zns(mo sh:Int)(Ms gs:List Int)(k:Nat):List Int:=Ms.mapIdx fun j m=>if k<=j then Zf2 mo sh m (gs.getD j 0) else m
def Znt(ra mo sh:Int)(Ps Ms gs:List Int)(k:Nat):List Int:=Ps.mapIdx fun j p=>if k<=j then Zl5 ra sh p (Zf2 mo sh (Ms.getD j 0) (gs.getD j 0)) else p
theorem Zos(mo sh:Int)(Ms gs:List Int)(k i:Nat):(Zns mo sh Ms gs k)[i]?=Ms[i]?.map fun m=>if k<=i then Zf2 mo sh m (gs.getD i 0) else m:=by simp[Zns]
theorem Zot(ra mo sh:Int)(Ps Ms gs:List Int)(k i:Nat):(Znt ra mo sh Ps Ms gs k)[i]?=Ps[i]?.map fun p=>if k<=i then Zl5 ra sh p (Zf2 mo sh (Ms.getD i 0) (gs.getD i 0)) else p:=by simp[Znt]
theorem Zqg(mo sh:Int)(Ms gs:List Int)(k:Nat)(h:Zaw Ms):Zaw (Zns mo sh Ms gs k):=by
 intro x hx;obtain⟨j,hj,rfl⟩:=List.mem_mapIdx.1 hx
 split
 ·exact Zl6 _ _ _ _
 ·exact h _ (List.getElem_mem _)
theorem Zqh(ra mo sh:Int)(Ps Ms gs:List Int)(k:Nat)(h:Zaw Ps):Zaw (Znt ra mo sh Ps Ms gs k):=by
 intro x hx;obtain⟨j,hj,rfl⟩:=List.mem_mapIdx.1 hx
 split
 ·exact Zp9 _ _ _ _
 ·exact h _ (List.getElem_mem _)
theorem Zmb(mo sh:Int)(Ms gs:List Int):Zns mo sh Ms gs 0=ZgA mo sh Ms gs:=by
 apply List.ext_getElem?
 intro i;rw[Zos,ZgA,ZbR]
 cases e:Ms[i]? with
 |none=>rfl
 |some m=>
  have:=(YaG.1 e).1;rw[Option.map_some,Option.map_some,if_pos (by omega),if_pos (by omega),Nat.sub_zero]
theorem Zmc(ra mo sh:Int)(Ps Ms gs:List Int):Znt ra mo sh Ps Ms gs 0=Zf3 ra mo sh Ps Ms gs:=by
 apply List.ext_getElem?
 intro i;rw[Zot,Zf3,ZbS]
 cases e:Ps[i]? with
 |none=>rfl
 |some m=>
  have:=(YaG.1 e).1;rw[Option.map_some,Option.map_some,if_pos (by omega),if_pos (by omega),Nat.sub_zero]
theorem ZsN(ra mo sh:Int)(Ps Ms gs:List Int)(h:Zaw Ps):Zaw (Zf3 ra mo sh Ps Ms gs):=by rw[<-Zmc];exact Zqh _ _ _ _ _ _ _ h
theorem ZsO(mo sh:Int)(Ms gs:List Int)(h:Zaw Ms):Zaw (ZgA mo sh Ms gs):=by rw[<-Zmb];exact Zqg _ _ _ _ _ h
abbrev StS:=Option Addr×Nat×Option Addr×Nat
def stv(N M:Nat)(l:List StS):List Value:=l.flatMap fun s=>[.slice s.1 N s.2.1,.slice s.2.2.1 M s.2.2.2]
theorem ZdO(N M:Nat)(l k:List StS):stv N M (l++k)=stv N M l++stv N M k:=by simp[stv]
theorem ZsP(N M:Nat)(s:StS)(l:List StS):stv N M (s::l)=.slice s.1 N s.2.1::.slice s.2.2.1 M s.2.2.2::stv N M l:=rfl
theorem Zmd(N M:Nat)(l:List StS)(k:Nat)(s:StS)(hk:l[k]?=some s):(stv N M l)[k*2]?=some (.slice s.1 N s.2.1)/\(stv N M l)[k*2+1]?=some (.slice s.2.2.1 M s.2.2.2):=by
 induction l generalizing k with
 |nil=>simp at hk
 |cons r l ih=>
  rw[ZsP]
  cases k with
  |zero=>
   obtain rfl:r=s:=by simpa using hk
   exact⟨rfl,rfl⟩
  |succ k=>
   have:=ih k (by simpa using hk);rw[show (k+1)*2=k*2+2 by omega]
   simpa using this
theorem ZdP(A B:Option Addr)(N M c d:Nat):∀u∈(#[Value.slice A N c,Value.slice B M d]:Array Value).toList,u.oneCell'=true:=by
 intro u hu;simp at hu
 rcases hu with rfl|rfl<;>rfl
theorem Zih{w:World}{base base':Nat}{e e':TypeId}{size size' n n':Nat}{v v':Value}{xs xs':List Value}(h:w.ownsRow base e size v n xs)(h':w.ownsRow base' e' size' v' n' xs')(hne:e≠e'):v.ownBlock=none\/v.ownBlock≠v'.ownBlock:=by
 rcases h'.2 with⟨rfl,_⟩|⟨g',cap,cur,rfl,_,hh,_⟩
 ·rcases h.2 with⟨rfl,_⟩|⟨g,cap,cur,rfl,_⟩
  ·exact .inl (by simp[Value.ownBlock])
  ·exact .inr (by simp[Value.ownBlock])
 ·exact .inr (by have:=Zab h (g:=g') (t:=e') (cs:=cur) hh hne;simpa [Value.ownBlock] using this)
def ZcO(w:World)(base N M:Nat)(l:List StS)(f:Nat->List Int×List Int):Prop:=
 ∀i s,l[i]?=some s->w.ownsRow base 2 1 (.slice s.1 N s.2.1) N (iv (f (i+1)).1)/\w.ownsRow base 2 1 (.slice s.2.2.1 M s.2.2.2) M (iv (f (i+1)).2)
theorem ZcO.below{w w':World}{base N M:Nat}{l:List StS}{f:Nat->List Int×List Int}(h:ZcO w base N M l f)(hb:Below w.heap.size w w'):ZcO w' base N M l f:=fun i s hs=>⟨Zac (h i s hs).1 hb,Zac (h i s hs).2 hb⟩
theorem ZcO.base{w:World}{base base' N M:Nat}{l:List StS}{f:Nat->List Int×List Int}(h:ZcO w base N M l f)(hb:base'<=base):ZcO w base' N M l f:=fun i s hs=>⟨Zae (h i s hs).1 hb,Zae (h i s hs).2 hb⟩
theorem ZcO.row{w w':World}{base N M:Nat}{l:List StS}{f:Nat->List Int×List Int}{base':Nat}{t:TypeId}{size n:Nat}{v:Value}{xs:List Value}(h:ZcO w base N M l f)(hv:w.ownsRow base' t size v n xs)(ht:2≠t)(hg:w.grownBy w' v.ownBlock):ZcO w' base N M l f:=
 fun i s hs=>⟨(h i s hs).1.kept hg (Zih (h i s hs).1 hv ht),(h i s hs).2.kept hg (Zih (h i s hs).2 hv ht)⟩
theorem ZcO.snoc{w:World}{base N M:Nat}{l:List StS}{f:Nat->List Int×List Int}{A B:Option Addr}{c d:Nat}(h:ZcO w base N M l f)(h1:w.ownsRow base 2 1 (.slice A N c) N (iv (f (l.length+1)).1))(h2:w.ownsRow base 2 1 (.slice B M d) M (iv (f (l.length+1)).2)):ZcO w base N M (l++[(A,c,B,d)]) f:=by
 intro i s hs;rw[List.getElem?_append] at hs
 split at hs
 ·exact h i s hs
 ·rename_i hi
  have:i=l.length:=by
   have:=(YaG.1 hs).1;simp at this;omega
  subst this;obtain rfl:(A,c,B,d)=s:=by simpa using hs
  exact⟨h1,h2⟩
theorem ZcO.rows{base:Nat}{N M:Nat}{x0:StS}{f:Nat->List Int×List Int}{j:Nat}{w:World}{l:List StS}{x:StS}(ho:ZcO w base N M l f)(hx:j=0/\x=x0\/0<j/\l[j-1]?=some x)
  (h1:Rd w 1 x0.1 N (iv (f 0).1)) (h2:Rd w 1 x0.2.2.1 M (iv (f 0).2)):Rd w 1 x.1 N (iv (f j).1)/\Rd w 1 x.2.2.1 M (iv (f j).2):=by
 rcases hx with⟨rfl,rfl⟩|⟨h0,hx⟩
 ·exact⟨h1,h2⟩
 ·have:=ho _ _ hx;rw[show j-1+1=j by omega] at this;exact⟨Rd.of_own this.1,Rd.of_own this.2⟩
def szN(l:List Int)(k:Nat):Nat:=(l.getD k 0).toNat
def ofN(l:List Int):Nat->Nat
 |0=>0
 |k+1=>ofN l k+szN l (k+1)*szN l k+szN l (k+1)
def obN(l:List Int)(k:Nat):Nat:=ofN l k+szN l (k+1)*szN l k
theorem ZsQ(l:List Int)(k:Nat):ofN l (k+1)=obN l k+szN l (k+1):=rfl
theorem ZcV(l:List Int):∀j k,j<=k->ofN l j<=ofN l k:=by
 intro j k h
 induction k with
 |zero=>rw[Nat.le_zero.1 h];exact YaF _
 |succ k ih=>
  rcases Nat.lt_or_ge j (k+1) with h1|h1
  ·have:=ih (by omega);rw[ofN];omega
  ·rw[Nat.le_antisymm h h1];exact YaF _
structure NetP(l:List Int)(n NP:Nat)(P:List Int)(q:Int):Prop where
 len:l.length=n
 n2:2<=n
 n16:n<=16
 pos:∀(k:Nat) (x:Int),l[k]?=some x->1<=x/\x<=1000
 cnt:ofN l (n-1)=NP
 np:NP<=1000
 pl:P.length=NP
 pin:Zaw P
 q0:0<=q
 q62:q<=62
section
variable{l:List Int}{n NP:Nat}{P:List Int}{q:Int}
theorem NetP.sz(h:NetP l n NP P q){k:Nat}(hk:k<n):l[k]?=some (szN l k:Int)/\1<=szN l k/\szN l k<=1000:=by
 obtain⟨x,hx⟩:∃x,l[k]?=some x:=⟨_,YaA (by rw[h.len];exact hk)⟩;have hp:=h.pos k x hx;have e:szN l k=x.toNat:=by rw[szN,YaT,hx];rfl
 rw[hx,e];refine⟨by congr 1;omega,by omega,by omega⟩
theorem NetP.getD(h:NetP l n NP P q){k:Nat}(hk:k<n):l.getD k 0=(szN l k:Int):=by rw[YaT,(h.sz hk).1];rfl
theorem NetP.cnt_eq(h:NetP l n NP P q):∀k,k<n->Zbp l k=(ofN l k:Int):=by
 intro k
 induction k with
 |zero=>intro _;rfl
 |succ k ih=>
  intro hk;have h1:=h.getD hk;have h2:=h.getD (show k<n by omega);have e:=ih (by omega)
  show _=((ofN l k+szN l (k+1)*szN l k+szN l (k+1):Nat):Int)
  rw[Zbp];rw[e,h1,h2];rw[Int.add_mul,Int.one_mul,Int.mul_comm];simp only[Int.natCast_add,Int.natCast_mul];omega
theorem NetP.fit(h:NetP l n NP P q){k:Nat}(hk:k<n-1):obN l k+szN l (k+1)<=NP:=by
 rw[<-h.cnt,<-ZsQ];exact ZcV l _ _ (by omega)
end
def wtL(l P:List Int)(k:Nat):List Int:=(P.drop (ofN l k)).take (szN l (k+1)*szN l k)
def bsL(l P:List Int)(k:Nat):List Int:=(P.drop (obN l k)).take (szN l (k+1))
def lkE(l:List Int)(k:Nat)(s:StS):List Value:=[.int .i64 (szN l (k+1)),.int .i64 (szN l k),.slice s.1 (szN l (k+1)*szN l k) s.2.1,.slice s.2.2.1 (szN l (k+1)) s.2.2.2]
def lkV(l:List Int)(ls:List StS):List Value:=ls.zipIdx.flatMap fun x=>lkE l x.2 x.1
theorem ZsR(l:List Int)(ls:List StS)(s:StS):lkV l (ls++[s])=lkV l ls++lkE l ls.length s:=by simp[lkV,List.zipIdx_append]
theorem Zkp{α:Type}{β:Type}(f:α->List β)(c:Nat)(hf:∀x,(f x).length=c):∀(l:List α) (k j:Nat) (x:α),j<c->l[k]?=some x->(l.flatMap f)[k*c+j]?=(f x)[j]?:=by
 intro l
 induction l with
 |nil=>intro k j x _ h;simp at h
 |cons a l ih=>
  intro k j x hj h;rw[List.flatMap_cons]
  cases k with
  |zero=>
   obtain rfl:a=x:=by simpa using h
   rw[Nat.zero_mul,Nat.zero_add,YaV (by rw[hf];exact hj)]
  |succ k=>
   rw[YaU (by rw[hf,Nat.succ_mul];omega),hf,show (k+1)*c+j-c=k*c+j by rw[Nat.succ_mul];omega];exact ih k j x hj (by simpa using h)
theorem ZuN(l:List Int)(ls:List StS)(k j:Nat)(s:StS)(hj:j<4)(hk:ls[k]?=some s):(lkV l ls)[k*4+j]?=(lkE l k s)[j]?:=
 Zkp (fun x:StS×Nat=>lkE l x.2 x.1) 4 (fun _=>rfl) ls.zipIdx k j (s,k) hj (by simp[hk])
theorem ZvX:Sl prog 266 275 (.agg #[.int .i64 0,.int .i64 0,.slice none 0 0,.slice none 0 0]) 4 64:=⟨underlying266,by kernel_rfl,rfl,by omega⟩
def Zme(w:World)(l P:List Int)(Ap:Option Addr)(cp:Nat)(ls:List StS)(lb:Nat):Prop:=∀k s,ls[k]?=some s ->
 w.ownsRow lb 2 1 (.slice s.1 (szN l (k+1)*szN l k) s.2.1) (szN l (k+1)*szN l k) (iv (wtL l P k))/\s.2.2.1=Zax Ap cp (obN l k)/\s.2.2.2=cp-obN l k
theorem Zme.nil(w:World)(l P:List Int)(Ap:Option Addr)(cp lb:Nat):Zme w l P Ap cp [] lb:=fun k s h=>by simp at h
theorem Zme.snoc{w:World}{l P:List Int}{Ap:Option Addr}{cp:Nat}{ls:List StS}{AV:Option Addr}{cV lb:Nat}(h:Zme w l P Ap cp ls lb)(hV:w.ownsRow lb 2 1 (.slice AV (szN l (ls.length+1)*szN l ls.length) cV) (szN l (ls.length+1)*szN l ls.length) (iv (wtL l P ls.length))) :
  Zme w l P Ap cp (ls++[(AV,cV,Zax Ap cp (obN l ls.length),cp-obN l ls.length)]) lb:=by
 intro k s hs
 by_cases hk:k<ls.length
 ·rw[YaV hk] at hs;exact h k s hs
 ·have hk2:k<(ls++[(AV,cV,Zax Ap cp (obN l ls.length),cp-obN l ls.length)]).length:=(YaG.1 hs).1;simp at hk2;obtain rfl:k=ls.length:=by omega
  rw[YaU (by omega)] at hs;simp at hs;subst hs;exact⟨hV,rfl,rfl⟩
theorem Zme.stay{t u:TypeId}{w w':World}{l P:List Int}{Ap:Option Addr}{cp:Nat}{ls:List StS}{lb:Nat}(h:Zme w l P Ap cp ls lb)(hs:Zcx t u w w')(hz:w.heap.size<=w'.heap.size)(h1:2≠t)(h2:2≠u):Zme w' l P Ap cp ls lb:=
 fun k s hk=>⟨hs.own hz (h k s hk).1 h1 h2,(h k s hk).2⟩
theorem Zme.below{w w':World}{l P:List Int}{Ap:Option Addr}{cp:Nat}{ls:List StS}{lb:Nat}(h:Zme w l P Ap cp ls lb)(hb:Below w.heap.size w w'):Zme w' l P Ap cp ls lb:=
 fun k s hk=>⟨Zac (h k s hk).1 hb,(h k s hk).2⟩
abbrev ZvK(bs:Nat)(Ap:Option Addr)(NP cp:Nat)(q:Int)(Al:Option Addr)(k cl:Nat):Array Value:=#[.pointer (some ⟨bs,0,none⟩),.slice Ap NP cp,.int .i64 q,.slice Al k cl]
structure Zqi(w:World)(nb:Nat)(l:List Int)(n NP:Nat)(P:List Int)(q:Int)(base bs:Nat)(Ap:Option Addr)(cp:Nat)(Al:Option Addr)(cl:Nat)(ls:List StS)(lb:Nat):Prop where
 blk:Blk w nb 268 (ZvK bs Ap NP cp q Al (n-1) cl)
 shp:ZaC w base bs l n
 prow:w.ownsRow lb 2 1 (.slice Ap NP cp) NP (iv P)
 lrow:w.ownsRow lb 275 4 (.slice Al (n-1) cl) (n-1) (lkV l ls)
 len:ls.length=n-1
 wts:Zme w l P Ap cp ls lb
 nbl:lb<=nb
def ZsS(w:World)(nb:Nat)(l:List Int)(n NP:Nat)(P:List Int)(q:Int):Prop:=∃base bs Ap cp Al cl ls lb,Zqi w nb l n NP P q base bs Ap cp Al cl ls lb
theorem Zqi.below{w w':World}{nb:Nat}{l:List Int}{n NP:Nat}{P:List Int}{q:Int}{base bs:Nat}{Ap:Option Addr}{cp:Nat}{Al:Option Addr}{cl:Nat}{ls:List StS}{lb:Nat}(h:Zqi w nb l n NP P q base bs Ap cp Al cl ls lb)(hb:Below w.heap.size w w'):Zqi w' nb l n NP P q base bs Ap cp Al cl ls lb:=
 ⟨h.blk.kept hb,h.shp.below hb,Zac h.prow hb,Zac h.lrow hb,h.len,h.wts.below hb,h.nbl⟩
def ZeR(lb base bs:Nat)(w:World)(nb:Nat)(l:List Int)(n NP:Nat)(P:List Int)(q:Int):Prop:=∃Ap cp Al cl ls,Zqi w nb l n NP P q base bs Ap cp Al cl ls lb
theorem ZeR.net{lb base bs:Nat}{w:World}{nb:Nat}{l:List Int}{n NP:Nat}{P:List Int}{q:Int}(h:ZeR lb base bs w nb l n NP P q):ZsS w nb l n NP P q:=by
 obtain⟨Ap,cp,Al,cl,ls,h⟩:=h;exact⟨base,bs,Ap,cp,Al,cl,ls,lb,h⟩
theorem ZeR.below{lb base bs:Nat}{w w':World}{nb:Nat}{l:List Int}{n NP:Nat}{P:List Int}{q:Int}(h:ZeR lb base bs w nb l n NP P q)(hb:Below w.heap.size w w'):ZeR lb base bs w' nb l n NP P q:=by
 obtain⟨Ap,cp,Al,cl,ls,h⟩:=h;exact⟨Ap,cp,Al,cl,ls,h.below hb⟩
theorem ZeR.but{T:Nat->Prop}{lb base bs:Nat}{w w':World}{nb:Nat}{l:List Int}{n NP:Nat}{P:List Int}{q:Int}(h:ZeR lb base bs w nb l n NP P q)(hb:But T w w')(hT:∀i,T i->i<lb)(hs:ZaC w' base bs l n):ZeR lb base bs w' nb l n NP P q:=by
 obtain⟨Ap,cp,Al,cl,ls,h⟩:=h;have ho:∀{e:TypeId} {size n:Nat} {v:Value} {xs:List Value},w.ownsRow lb e size v n xs->w'.ownsRow lb e size v n xs:=fun {e size n v xs} r=>by
  refine⟨r.1,?_⟩;have hlt:=r.lt
  rcases r.2 with r2|⟨g,cap,cur,rfl,hbg,hh,r3⟩
  ·exact .inl r2
  ·exact .inr ⟨g,cap,cur,rfl,hbg,(hb.block g (hlt g rfl).2 (fun e=>by have:=hT g e;omega)).trans hh,r3⟩
 exact⟨Ap,cp,Al,cl,ls,(hb.block nb h.blk.lt (fun e=>by have:=hT nb e;have:=h.nbl;omega)).trans h.blk,hs,ho h.prow,ho h.lrow,h.len,fun k s hk=>⟨ho (h.wts k s hk).1,(h.wts k s hk).2⟩,h.nbl⟩
def ZvY(base bs:Nat)(l:List Int)(n NP:Nat)(P:List Int)(q:Int)(w:World)(e:Ending)(w':World):Prop:=∃nb,e=.returned (.tuple #[.pointer (some ⟨nb,0,none⟩),.bool true])/\ZeR w.heap.size base bs w' nb l n NP P q/\Below w.heap.size w w'
theorem Zou(base bs:Nat)(l:List Int)(n NP:Nat)(P:List Int)(q:Int)(A:Option Addr)(c:Nat)(w:World)(hN:NetP l n NP P q)(hS:ZaC w base bs l n)(hP:Rd w 1 A NP (iv P)) :
    Calls prog 61 #[.pointer (some ⟨bs,0,none⟩),.slice A NP c,.int .i64 q] w (ZvY base bs l n NP P q w):=by
  have e1:decide (q<0)=false:=YaI (by have:=hN.q0;omega);have e2:decide ((62:Int)<q)=false:=YaI (by have:=hN.q62;omega);have e3:((NP:Int) !=(NP:Int))=false:=by simp
  have hcnt:Zbp l (n-1)=(NP:Int):=by rw[hN.cnt_eq _ (by have:=hN.n2;omega),hN.cnt]
  obtain⟨m,hm⟩:∃m,n-1=m:=⟨_,rfl⟩;have hn2:=hN.n2;have hn16:=hN.n16;have hNP:=hN.np;have hpl:=hN.pl;have HC1:=hid (fun W (s:ZaC W base bs l n)=>by
    have:=Zbs base bs n l W s;rw[hcnt] at this;exact this)
  have HC2:=hid (fun W (r:Rd W 1 A NP (iv P))=>Za0 A NP c P W hpl r (by omega));have HC3:=hid (fun W (s:ZaC W base bs l n)=>Zd4 base bs n l W s hN.len (by omega));have HC4:=hid (fun W (s:ZaC W base bs l n)=>by
    have:=ZbW base bs n l W s;rw[hm] at this;exact this)
  have HN:=hid hN;have HS:=hid hS;have HP:=hid hP;have HM:=hid hm;clear hN hS hP hcnt hm
  go_enter func61,ntmps61
  go_wp2_with fail;((with_reducible refine(HC1.out _ HS.out).mono ?_);rintro e w1 ⟨rfl,rfl⟩);go_wp2_with fail;((with_reducible refine(HC2.out _ HP.out).mono ?_);rintro e w1 ⟨Ap,cp,rfl,ho1,hb1⟩);have HO1:=hid ho1;have HB1:=hid hb1;clear ho1 hb1;go_wp2_with fail;have HB0:=hid (HB1.out.mono (YaF _));obtain⟨w2,hw2⟩:∃w2,w1.alloc (.cells (ZvK bs Ap NP cp q none 0 0) 268)=w2:=⟨_,rfl⟩;obtain⟨nb,hnb⟩:∃nb,w1.heap.size=nb:=⟨_,rfl⟩;have hz1:=HB1.out.size;have hb2:Below w.heap.size w w2:=by rw[<-hw2];exact HB1.out.alloc hz1 _
  have hk2:Blk w2 nb 268 (ZvK bs Ap NP cp q none 0 0):=by rw[<-hw2];exact Blk.new' _ _ hnb
  have ho2:w2.ownsRow w.heap.size 2 1 (.slice Ap NP cp) NP (iv P):=by rw[<-hw2];exact HO1.out.alloc _
  rw[hw2,hnb];have HNB:=hid (show w.heap.size<=nb by rw[<-hnb];exact hz1);have HB2:=hid hb2;have HK2:=hid hk2;have HO2:=hid ho2;clear hw2 hnb hz1 hb2 hk2 ho2 HB0 HB1 HO1;((with_reducible refine(HC3.out _ (HS.out.below HB2.out)).mono ?_);rintro e w3 ⟨A3,c3,rfl,ho3,hb3⟩);have HB3:=hid (bT0 HB2.out hb3);have HK3:=hid (HK2.out.kept hb3);have HO3:=hid (Zac HO2.out hb3);have HA3:=hid (Zae ho3 (Nat.zero_le _));clear ho3 hb3 HB2 HK2 HO2;go_wp2_with fail;((with_reducible refine(HC4.out _ (HS.out.below HB3.out)).mono ?_);rintro e w4 ⟨rfl,rfl⟩);go_wp2_with fail
  go_loopw [42] (fun v wr=>∃(k:Nat) (Al:Option Addr) (cl:Nat) (ls:List StS),k<=m/\v=.int .i64 k/\Blk wr nb 268 (ZvK bs Ap NP cp q Al k cl)/\wr.ownsRow w.heap.size 275 4 (.slice Al k cl) k (lkV l ls)/\ls.length=k/\Zme wr l P Ap cp ls w.heap.size/\wr.ownsRow w.heap.size 2 1 (.slice Ap NP cp) NP (iv P)/\wr.ownsRow 0 3 1 (.slice A3 n c3) n (iv l)/\Below w.heap.size w wr) (fun v _=>m-(intOf v).toNat)
  case atStart=>exact⟨0,none,0,[],by omega,rfl,HK3.out,World.ownsRow_nil _ _ _ _,rfl,Zme.nil _ _ _ _ _ _,HO3.out,HA3.out,HB3.out⟩
  case round=>
    obtain⟨k,Al,cl,ls,hk,rfl,hK,hL,hll,hW,hO,hA,hB⟩:=hrel
    by_cases hlt:k<m
    · have HK:=hid hK
      have HL:=hid hL;have HLL:=hid hll;have HW:=hid hW;have HO:=hid hO;have HA:=hid hA;have HB:=hid hB;have hkn:k<n-1:=by rw[HM.out];exact hlt
      have hmn:=HM.out;have HLT:=hid hlt;have hR:=HN.out.sz (show k+1<n by omega);have hC:=HN.out.sz (show k<n by omega);have hfit:=HN.out.fit hkn;have hob:(ofN l k:Int)+(szN l (k+1):Int)*(szN l k:Int)=(obN l k:Int):=by unfold obN;simp
      have HC5:Hid (∀W,ZaC W base bs l n->Calls prog 143 #[.pointer (some ⟨bs,0,none⟩),.int .i64 k] W fun e w'=>e=.returned (.agg #[.int .i64 (ofN l k),.int .i64 (obN l k)])/\Below W.heap.size W w'):=hid (fun W s=>by
        have:=Zc8 base bs n k l W s hkn;rw[HN.out.cnt_eq k (by omega),HN.out.getD (show k<n by omega),HN.out.getD (show k+1<n by omega),hob] at this;exact this)
      have HC6:Hid (∀W,ZaC W base bs l n->Calls prog 144 #[.pointer (some ⟨bs,0,none⟩),.int .i64 k] W fun e w'=>e=.returned (.agg #[.int .i64 (obN l k),.int .i64 (ofN l (k+1))])/\Below W.heap.size W w'):=hid (fun W s=>by
        have:=Zdp base bs n k l W s hkn;rw[HN.out.cnt_eq k (by omega),HN.out.cnt_eq (k+1) (by omega),HN.out.getD (show k<n by omega),HN.out.getD (show k+1<n by omega),hob] at this;exact this)
      have HWT:Hid (wtL l P k=(P.drop (ofN l k)).take (szN l (k+1)*szN l k)):=hid rfl;have HLE:Hid (∀s,lkE l k s=[.int .i64 (szN l (k+1)),.int .i64 (szN l k),.slice s.1 (szN l (k+1)*szN l k) s.2.1,.slice s.2.2.1 (szN l (k+1)) s.2.2.2]):=hid (fun s=>rfl);have HO2:Hid (ofN l (k+1)=obN l k+szN l (k+1)):=hid rfl;have HOB:Hid (obN l k=ofN l k+szN l (k+1)*szN l k):=hid rfl;have HSN:=hid (fun(w':World) (AV:Option Addr) (cV:Nat) (h:Zme w' l P Ap cp ls w.heap.size) (hV:w'.ownsRow w.heap.size 2 1 (.slice AV (szN l (k+1)*szN l k) cV) (szN l (k+1)*szN l k) (iv (wtL l P k)))=>by
        have:=h.snoc (AV:=AV) (cV:=cV) (by rw[HLL.out];exact hV);rw[HLL.out] at this;exact this)
      have hk1:=hR.1;have hk0:=hC.1;generalize szN l (k+1)=R at *;generalize szN l k=C at *;generalize ofN l k=o at *;generalize obN l k=ob at *;generalize ofN l (k+1)=o2 at *;obtain⟨M,hMM⟩:∃M,R*C=M:=⟨_,rfl⟩;rw[hMM] at HWT HLE HOB HSN;have hM1:1<=M:=by rw[<-hMM];exact Nat.mul_pos hR.2.1 hC.2.1
      have hrp:Zc9 (R:Int) (C:Int) M:=⟨⟨by omega,by omega,by omega,by omega⟩,by rw[<-hMM];simp⟩;clear hK hL hll hW hO hA hB hob;go_wp2_with fail;((with_reducible refine(HC5.out wr (HS.out.below HB.out)).mono ?_);rintro e w5 ⟨rfl,hb5⟩);have HB5:=hid (bT0 HB.out hb5);have HK5:=hid (HK.out.kept hb5);have HL5:=hid (Zac HL.out hb5);have HW5:=hid (HW.out.below hb5);have HO5:=hid (Zac HO.out hb5);have HA5:=hid (Zac HA.out hb5);clear hb5 HK HL HW HO HA HB;go_wp2_with fail;((with_reducible refine(HC6.out w5 (HS.out.below HB5.out)).mono ?_);rintro e w6 ⟨rfl,hb6⟩);obtain⟨w7,hw7⟩:∃w7,(w6.alloc (.cells #[.int .i64 o,.int .i64 ob] 218)).alloc (.cells #[.int .i64 ob,.int .i64 o2] 218)=w7:=⟨_,rfl⟩;have hb7:Below w6.heap.size w6 w7:=by rw[<-hw7];exact(bA0 _).alloc (by simp) _
      have hp1:Blk w7 w6.heap.size 218 #[.int .i64 o,.int .i64 ob]:=by rw[<-hw7];exact(Blk.new _ _ _).alloc _
      have hp2:Blk w7 (w6.heap.size+1) 218 #[.int .i64 ob,.int .i64 o2]:=by rw[<-hw7];exact Blk.new' _ _ (by simp)
      have hb57:=bT0 hb6 hb7;have HB7:=hid (bT0 HB5.out hb57);have HK7:=hid (HK5.out.kept hb57);have HL7:=hid (Zac HL5.out hb57);have HW7:=hid (HW5.out.below hb57);have HO7:=hid (Zac HO5.out hb57);have HA7:=hid (Zac HA5.out hb57);have HP1:=hid hp1;have HP2:=hid hp2;have HWE:=hid hw7;clear hw7 hb6 hb7 hp1 hp2 hb57 HK5 HL5 HW5 HO5 HA5 HB5;go_wp2_with fail;rw[HWE.out];clear HWE;obtain⟨gA,oA,rfl,lA,hcA⟩:=(Rd.of_own HA7.out).2 (by omega);have a0:w7.cell? ⟨gA,oA+k,none⟩=some (.int .i64 C):=hcA k _ (by rw[iv,YaR,hC.1];rfl);have a1:w7.cell? ⟨gA,oA+(k+1),none⟩=some (.int .i64 R):=hcA (k+1) _ (by rw[iv,YaR,hR.1];rfl);obtain⟨k1,hk1'⟩:∃k1,k+1=k1:=⟨_,rfl⟩;rw[hk1'] at a1;have i1:(0:Int)<=(k:Int):=by omega
      have i2:(k:Int)<(n:Int):=by omega
      have i3:(0:Int)<=(k1:Int):=by omega
      have i4:(k1:Int)<(n:Int):=by omega
      have hkw:IntKind.i64.wrap ((k:Int)+1)=(k1:Int):=by rw[show (k:Int)+1=(k1:Int) by omega];exact IntWalk.i64_in _ (by omega)
      have HK1:=hid hk1';clear hk1';have n1:w7.cell? ⟨nb,1,none⟩=some (.slice Ap NP cp):=HK7.out.cell 1;have ln:=HK7.out.lt;have p0:=HP1.out.cell 0;have p1:=HP1.out.cell 1;have lp:=HP1.out.lt;have hcap:NP<=cp:=Zdq HO7.out;obtain⟨Aw,hAw⟩:∃Aw,Zax Ap cp o=Aw:=⟨_,rfl⟩;have hsl:=fun W=>Zcm (P:=prog) (T:=74) (A:=Ap) (n:=NP) (c:=cp) (e:=o) (e2:=ob) (k:=M) (c1:=cp-o) (P1:=Aw) underlying74 (fun W=>rfl) (by have:=HOB.out;omega) (by have:=HOB.out;omega) (by have:=HOB.out;omega) rfl hAw W
      have hrd:Rd w7 1 Aw M (iv (wtL l P k)):=by rw[<-hAw,HWT.out];exact ZsF HO7.out hpl (by have:=HOB.out;omega)
      have HRD:=hid hrd;have HWL:Hid ((wtL l P k).length=M):=hid (by rw[HWT.out,List.length_take,List.length_drop,hpl];have:=HOB.out;omega);have HOF:=hid (fun W (kk:Zag w7 W)=>ZsG (R:Int) (C:Int) Aw M (cp-o) (wtL l P k) W hrp (by have:=HOB.out;omega) HWL.out (HRD.out.below kk.2.2));have K7:Zag w7 w7.drew:=Zag.start w7;have KZ:Zag w7 w7:=Zag.of (bR0 _ _);clear hcA hrd hAw
      go_region_held3 (fun w'=>Zag w7 w') (first|exact kk|exact ks|exact K7|exact K7.alloc _|exact kk.alloc _) (first
        | (go_at_call 145;(with_reducible refine(HOF.out _ (by first|exact K7|exact(KZ.alloc _).drew|exact K7.alloc _)).mono ?_);rintro e w8 ⟨AV,cV,rfl,hov,hb8⟩;have kk:Zag w7 w8:=(by first|exact K7.call hb8|exact((KZ.alloc _).drew).call hb8|exact(K7.alloc _).call hb8);have HOV:=hid hov;have HKK:=hid kk;try (have hz:=(Blk.new w7 271 #[.int .i64 0,.int .i64 0,.slice none 0 0]).drew.kept hb8;have z0:=hz.cell 0;have z1:=hz.cell 1;have z2:=hz.cell 2;have y0:=hz.frozen 0;have y1:=hz.frozen 1;have y2:=hz.frozen 2;have lz:=hz.lt;have ks:Zag w7 (((w8.setCell ⟨w7.heap.size,0,none⟩ (.int .i64 R)).setCell ⟨w7.heap.size,1,none⟩ (.int .i64 C)).setCell ⟨w7.heap.size,2,none⟩ (.slice AV M cV)):=Zag.of (((kk.2.2.setCell (p:=⟨w7.heap.size,0,none⟩) (YaF _) _).setCell (p:=⟨w7.heap.size,1,none⟩) (YaF _) _).setCell (p:=⟨w7.heap.size,2,none⟩) (YaF _) _);have HZ:=hid hz;clear hz);clear hov))
      all_goals first
        | (obtain⟨w9,hw9⟩:∃w9,w8.alloc (.cells #[.int .i64 R,.int .i64 C,.slice AV M cV] 271)=w9:=⟨_,rfl⟩
           obtain⟨mb,hmb⟩:∃mb,w8.heap.size=mb:=⟨_,rfl⟩;have hk9:Zag w7 w9:=by rw[<-hw9];exact HKK.out.alloc _
           have hm9:Blk w9 mb 271 #[.int .i64 R,.int .i64 C,.slice AV M cV]:=by rw[<-hw9];exact Blk.new' _ _ hmb
           have hv9:w9.ownsRow w.heap.size 2 1 (.slice AV M cV) M (iv (wtL l P k)):=by rw[<-hw9];exact Zae (HOV.out.alloc _) (YaH HB7.out.size (by first|exact K7.2.1|exact(K7.alloc _).2.1|exact((KZ.alloc _).drew).2.1))
           rw[hw9,hmb];clear hw9 hmb)
        | (obtain⟨hO3,hG3⟩:=ZwS HZ.out (.int .i64 R) (.int .i64 C) (.slice AV M cV)
           have hv9:=Zae (HOV.out.kept hO3 (.inr (Zab HOV.out HZ.out (by decide)))) (YaH HB7.out.size (by first|exact K7.2.1|exact(K7.alloc _).2.1|exact((KZ.alloc _).drew).2.1));have hm9:=hG3;have hk9:Zag w7 _:=ks;obtain⟨w9,hw9⟩:∃w9,(((w8.setCell ⟨w7.heap.size,0,none⟩ (.int .i64 R)).setCell ⟨w7.heap.size,1,none⟩ (.int .i64 C)).setCell ⟨w7.heap.size,2,none⟩ (.slice AV M cV))=w9:=⟨_,rfl⟩;obtain⟨mb,hmb⟩:∃mb,w7.heap.size=mb:=⟨_,rfl⟩;rw[hw9] at hv9 hm9 hk9 ⊢;rw[hmb] at hm9 ⊢;clear hO3 hG3 hw9 hmb ks z0 z1 z2 y0 y1 y2 lz HZ)
      all_goals have HB9:=hid (bT0 HB7.out hk9.2.2)
      all_goals have HK9:=hid (HK7.out.kept hk9.2.2)
      all_goals have HL9:=hid (Zac HL7.out hk9.2.2)
      all_goals have HW9:=hid (HW7.out.below hk9.2.2)
      all_goals have HO9:=hid (Zac HO7.out hk9.2.2)
      all_goals have HA9:=hid (Zac HA7.out hk9.2.2)
      all_goals have HP9:=hid (HP2.out.kept hk9.2.2)
      all_goals have HM9:=hid hm9
      all_goals have HV9:=hid hv9
      all_goals clear hk9 hm9 hv9 kk a0 a1 n1 ln p0 p1 lp hsl K7 KZ HK7 HL7 HW7 HO7 HA7 HB7 HP1 HP2 HKK HOV HOF HRD
      all_goals (
        have hAb:∃Ab,Zax Ap cp ob=Ab:=⟨_,rfl⟩;obtain⟨Ab,hAb⟩:=hAb;have hsl2:=fun W=>Zcm (P:=prog) (T:=74) (A:=Ap) (n:=NP) (c:=cp) (e:=ob) (e2:=o2) (k:=R) (c1:=cp-ob) (P1:=Ab) underlying74 (fun W=>rfl) (by have:=HO2.out;omega) (by have:=HO2.out;omega) (by have:=HO2.out;omega) rfl hAb W
        have HAB:=hid hAb;clear hAb;go_wp2_with fail;refine Zad (fun W=>Blk W nb 268 (ZvK bs Ap NP cp q Al k cl)/\Blk W mb 271 #[.int .i64 R,.int .i64 C,.slice AV M cV]/\Blk W (w6.heap.size+1) 218 #[.int .i64 ob,.int .i64 o2]) [0,1,2,3,4,5,6,7,8,9,10,11,12,13,14,15] [16,17] [18,19,20] (by kernel_rfl) (by kernel_rfl) (⟨HK9.out.drew,HM9.out.drew,HP9.out.drew⟩) ?_;simp only[YaO,YaP,YaB,YaC];refine Zaa (.pointer (some ⟨nb,0,none⟩)) rfl (fun W hW=>?_) ?_
        · obtain⟨hx,hy,hp⟩:=hW
          have x1:=hx.cell 1;have x3:=hx.cell 3;have y0:=hy.cell 0;have y1:=hy.cell 1;have y2:=hy.cell 2;have r0:=hp.cell 0;have r1:=hp.cell 1;go_simp
        go_simp;refine Zaa (.pointer (some ⟨nb,0,none⟩)) rfl (fun W hW=>?_) ?_
        · obtain⟨hx,hy,hp⟩:=hW
          have x1:=hx.cell 1;have x3:=hx.cell 3;have y0:=hy.cell 0;have y1:=hy.cell 1;have y2:=hy.cell 2;have r0:=hp.cell 0;have r1:=hp.cell 1;go_simp
        go_simp;refine Zaa (.pointer (some ⟨nb,0,none⟩)) rfl (fun W hW=>?_) ?_
        · obtain⟨hx,hy,hp⟩:=hW
          have x1:=hx.cell 1;have x3:=hx.cell 3;have y0:=hy.cell 0;have y1:=hy.cell 1;have y2:=hy.cell 2;have r0:=hp.cell 0;have r1:=hp.cell 1;go_simp
        go_simp;refine Zaa (.pointer (some ⟨nb,3,none⟩)) rfl (fun W hW=>?_) ?_
        · obtain⟨hx,hy,hp⟩:=hW
          have x1:=hx.cell 1;have x3:=hx.cell 3;have y0:=hy.cell 0;have y1:=hy.cell 1;have y2:=hy.cell 2;have r0:=hp.cell 0;have r1:=hp.cell 1;go_simp
        go_simp;refine Zaa (.slice Al k cl) rfl (fun W hW=>?_) ?_
        · obtain⟨hx,hy,hp⟩:=hW
          have x1:=hx.cell 1;have x3:=hx.cell 3;have y0:=hy.cell 0;have y1:=hy.cell 1;have y2:=hy.cell 2;have r0:=hp.cell 0;have r1:=hp.cell 1;go_simp
        go_simp;refine Zaa (.agg #[.int .i64 R,.int .i64 C,.slice AV M cV]) rfl (fun W hW=>?_) ?_
        · obtain⟨hx,hy,hp⟩:=hW
          have x1:=hx.cell 1;have x3:=hx.cell 3;have y0:=hy.cell 0;have y1:=hy.cell 1;have y2:=hy.cell 2;have r0:=hp.cell 0;have r1:=hp.cell 1;go_simp
        go_simp;refine Zaa (.pointer (some ⟨nb,0,none⟩)) rfl (fun W hW=>?_) ?_
        · obtain⟨hx,hy,hp⟩:=hW
          have x1:=hx.cell 1;have x3:=hx.cell 3;have y0:=hy.cell 0;have y1:=hy.cell 1;have y2:=hy.cell 2;have r0:=hp.cell 0;have r1:=hp.cell 1;go_simp
        go_simp;refine Zaa (.pointer (some ⟨nb,0,none⟩)) rfl (fun W hW=>?_) ?_
        · obtain⟨hx,hy,hp⟩:=hW
          have x1:=hx.cell 1;have x3:=hx.cell 3;have y0:=hy.cell 0;have y1:=hy.cell 1;have y2:=hy.cell 2;have r0:=hp.cell 0;have r1:=hp.cell 1;go_simp
        go_simp;refine Zaa (.pointer (some ⟨nb,1,none⟩)) rfl (fun W hW=>?_) ?_
        · obtain⟨hx,hy,hp⟩:=hW
          have x1:=hx.cell 1;have x3:=hx.cell 3;have y0:=hy.cell 0;have y1:=hy.cell 1;have y2:=hy.cell 2;have r0:=hp.cell 0;have r1:=hp.cell 1;go_simp
        go_simp;refine Zaa (.slice Ap NP cp) rfl (fun W hW=>?_) ?_
        · obtain⟨hx,hy,hp⟩:=hW
          have x1:=hx.cell 1;have x3:=hx.cell 3;have y0:=hy.cell 0;have y1:=hy.cell 1;have y2:=hy.cell 2;have r0:=hp.cell 0;have r1:=hp.cell 1;go_simp
        go_simp;refine Zaa (.pointer (some ⟨w6.heap.size+1,0,none⟩)) rfl (fun W hW=>?_) ?_
        · obtain⟨hx,hy,hp⟩:=hW
          have x1:=hx.cell 1;have x3:=hx.cell 3;have y0:=hy.cell 0;have y1:=hy.cell 1;have y2:=hy.cell 2;have r0:=hp.cell 0;have r1:=hp.cell 1;go_simp
        go_simp;refine Zaa (.int .i64 ob) rfl (fun W hW=>?_) ?_
        · obtain⟨hx,hy,hp⟩:=hW
          have x1:=hx.cell 1;have x3:=hx.cell 3;have y0:=hy.cell 0;have y1:=hy.cell 1;have y2:=hy.cell 2;have r0:=hp.cell 0;have r1:=hp.cell 1;go_simp
        go_simp;refine Zaa (.pointer (some ⟨w6.heap.size+1,1,none⟩)) rfl (fun W hW=>?_) ?_
        · obtain⟨hx,hy,hp⟩:=hW
          have x1:=hx.cell 1;have x3:=hx.cell 3;have y0:=hy.cell 0;have y1:=hy.cell 1;have y2:=hy.cell 2;have r0:=hp.cell 0;have r1:=hp.cell 1;go_simp
        go_simp;refine Zaa (.int .i64 o2) rfl (fun W hW=>?_) ?_
        · obtain⟨hx,hy,hp⟩:=hW
          have x1:=hx.cell 1;have x3:=hx.cell 3;have y0:=hy.cell 0;have y1:=hy.cell 1;have y2:=hy.cell 2;have r0:=hp.cell 0;have r1:=hp.cell 1;go_simp
        go_simp;refine Zaa (.slice Ab R (cp-ob)) rfl (fun W hW=>?_) ?_
        · obtain⟨hx,hy,hp⟩:=hW
          have x1:=hx.cell 1;have x3:=hx.cell 3;have y0:=hy.cell 0;have y1:=hy.cell 1;have y2:=hy.cell 2;have r0:=hp.cell 0;have r1:=hp.cell 1;go_simp
        go_simp;refine Zaa (.agg #[.int .i64 R,.int .i64 C,.slice AV M cV,.slice Ab R (cp-ob)]) rfl (fun W hW=>?_) ?_
        · obtain⟨hx,hy,hp⟩:=hW
          have x1:=hx.cell 1;have x3:=hx.cell 3;have y0:=hy.cell 0;have y1:=hy.cell 1;have y2:=hy.cell 2;have r0:=hp.cell 0;have r1:=hp.cell 1;go_simp
        go_simp;change Zah _ _ _ _ _ (_::_::[]) _ _;unfold Zah;go_wp2_with fail;refine⟨⟨HK9.out.drew.alloc _,HM9.out.drew.alloc _,HP9.out.drew.alloc _⟩,?_⟩;unfold Zah;change wpList _ _ _ (_::[]) _ (w9.drew.alloc (.cells #[.int .i64 R,.int .i64 C,.slice AV M cV,.slice Ab R (cp-ob)] 275))
        go_wp2_with (at_builtin;go_must (refine Zaj (w:=w9.drew) ZvX rfl _ _ rfl w.heap.size (.slice Al k cl) k (lkV l ls) rfl (show w9.drew.ownsRow w.heap.size 275 4 (.slice Al k cl) k (lkV l ls) from HL9.out) #[.int .i64 R,.int .i64 C,.slice AV M cV,.slice Ab R (cp-ob)] w9.drew.heap.size rfl rfl rfl (by intro u hu;simp at hu;rcases hu with rfl|rfl|rfl|rfl<;>rfl) (by unfold maxLen;omega) (by omega) HB9.out.size ?_);go_must (intro A' c' wa hown' hb' hgr' hat'))
        have hg10:w9.grownBy wa (Value.slice Al k cl).ownBlock:=ZaB ((bR0 w9.heap.size w9).drew) hgr';have HK10:=hid (HK9.out.other HL9.out hg10 (by decide));have HM10:=hid (HM9.out.other HL9.out hg10 (by decide));have HP10:=hid (HP9.out.other HL9.out hg10 (by decide));have HS10:=hid (Zcx.of_own (t:=268) HL9.out hg10);have HL10:Hid (wa.ownsRow w.heap.size 275 4 (.slice A' (k+1) c') (k+1) (lkV l (ls++[(AV,cV,Ab,cp-ob)]))):=hid (by rw[ZsR,HLL.out,HLE.out];exact hown');have HB10:=hid ((HB9.out.drew).trans hb');have hz10:=hg10.size;clear hown' hb' hgr' hat' hg10;refine⟨⟨HK10.out,HM10.out,HP10.out⟩,?_⟩;unfold Zah;change wpList _ _ _ (_::_::_::[]) _ _;have v3:wa.cell? ⟨nb,3,none⟩=some (.slice Al k cl):=HK10.out.cell 3;have f3:=HK10.out.frozen 3;have l10:=HK10.out.lt;go_wp2_with fail;refine NoPanic.normal ?_;have hg11:=Zak (p:=⟨nb,3,none⟩) (World.grownBy.refl wa (some nb)) (.inl rfl) (.slice A' (k+1) c');have HK11:Hid (Blk (wa.setCell ⟨nb,3,none⟩ (.slice A' (k+1) c')) nb 268 (ZvK bs Ap NP cp q A' (k+1) c')):=hid (HK10.out.set_ 3 (.slice A' (k+1) c'));have HS11:=hid (HS10.out.trans (Zcx.of_gr (u:=275) HK10.out hg11));have HL11:=hid (HL10.out.kept hg11 (.inr (Zab HL10.out HK10.out (by decide))));have HB11:=hid (Zai HB10.out (YaH HB9.out.size hz10) hg11 HNB.out);obtain⟨wb,hwb⟩:∃wb,wa.setCell ⟨nb,3,none⟩ (.slice A' (k+1) c')=wb:=⟨_,rfl⟩;rw[hwb] at hg11 HK11 HS11 HL11 HB11 ⊢;have hz11:w9.heap.size<=wb.heap.size:=YaH hz10 hg11.size;have HZ11:=hid hz11;clear hwb hg11 hz11 v3 f3 l10 HK10 HM10 HP10 HS10 HL10 HB10 hsl2;go_wp2_with fail
        go_roundw
        case rel=>
          refine⟨k+1,A',c',ls++[(AV,cV,Ab,cp-ob)],HLT.out,by rw[HK1.out],HK11.out,HL11.out,by simp[HLL.out],?_,HS11.out.own HZ11.out HO9.out (by decide) (by decide),HS11.out.own HZ11.out HA9.out (by decide) (by decide),HB11.out⟩;rw[<-HAB.out];exact HSN.out wb AV cV (HW9.out.stay HS11.out HZ11.out (by decide) (by decide)) (HS11.out.own HZ11.out HV9.out (by decide) (by decide))
        case measure=>simp[intOf];have:=HLT.out;have:=HK1.out;omega)
    · obtain rfl:k=m:=by omega
      have HK:=hid hK;have HL:=hid hL;have HLL:=hid hll;have HW:=hid hW;have HO:=hid hO;have HB:=hid hB;clear hK hL hll hW hO hA hB;go_wp2_with fail
      go_ret2
      have hm:=HM.out;subst hm;exact⟨nb,rfl,⟨Ap,cp,Al,cl,ls,HK.out,HS.out.below HB.out,HO.out,HL.out,HLL.out,HW.out,HNB.out⟩,HB.out⟩
def Zb2(a g:Int):Int:=if 0<a then g else 0
theorem ZsT(a:Int)(w:World):Calls prog 248 #[.int .i64 a] w fun e w'=>e=.returned (.int .i64 (Zb2 a a))/\w=w':=by
 unfold Zb2
 go_enter func248,ntmps248
 by_cases h:0<a
 ·rw[if_pos h];go_wp2
  all_goals (go_ret;exact⟨ZaG (by omega),rfl⟩)
 ·rw[if_neg h];go_wp2
  all_goals (go_ret;exact⟨ZaG (by omega),rfl⟩)
theorem ZsU(a g:Int)(w:World):Calls prog 169 #[.int .i64 a,.int .i64 g] w fun e w'=>e=.returned (.int .i64 (Zb2 a g))/\w=w':=by
 unfold Zb2
 by_cases h:0<a
 ·rw[if_pos h]
  go_enter func169,ntmps169
  go_wp2;go_ret;exact⟨rfl,rfl⟩
 ·rw[if_neg h]
  go_enter func169,ntmps169
  go_wp2;go_ret;exact⟨rfl,rfl⟩
theorem ZgB(a g:Int)(w:World):Calls prog 224 #[.int .i64 a,.int .i64 g] w fun e w'=>e=.returned (.int .i64 (Zb2 a g))/\w=w':=by
 unfold Zb2
 by_cases h:0<a
 ·rw[if_pos h]
  go_enter func224,ntmps224
  go_wp2;go_ret;exact⟨rfl,rfl⟩
 ·rw[if_neg h]
  go_enter func224,ntmps224
  go_wp2;go_ret;exact⟨rfl,rfl⟩
theorem ZuO(a g:Int)(w:World):Calls prog 204 #[.int .i64 a,.int .i64 g] w fun e w'=>e=.returned (.int .i64 (wrap64 (a-g)))/\w=w':=by
 go_enter func204,ntmps204
 go_wp2;go_ret;exact⟨ZaG (by unfold wrap64;omega),rfl⟩
def Zpu(l P:List Int)(q:Int)(k:Nat)(x:List Int):List Int:=ZbK (Zig (wtL l P k) x q (szN l (k+1))) 0 (bsL l P k) (szN l (k+1))
def Zdr(z:List Int)(i:Nat):List Int:=(z.take i).map (fun v=>Zb2 v v)++z.drop i
def ZsV(l:List Int)(n:Nat)(P:List Int)(q:Int)(k:Nat)(x:List Int):List Int:=if k+1<n-1 then (Zpu l P q k x).map (fun v=>Zb2 v v) else Zpu l P q k x
def trN(l:List Int)(n:Nat)(P:List Int)(q:Int)(x:List Int):Nat->List Int
 |0=>x
 |k+1=>ZsV l n P q k (trN l n P q x k)
theorem Zmf(z:List Int):Zdr z 0=z:=by simp[Zdr]
theorem Zov(z:List Int)(i:Nat)(h:z.length<=i):Zdr z i=z.map fun v=>Zb2 v v:=by simp[Zdr,YaX h,List.drop_eq_nil_of_le h]
theorem Zow{z:List Int}{i:Nat}{v:Int}(h:z[i]?=some v):(Zdr z i)[i]?=some v:=by
 have hl:=(YaG.1 h).1;rw[Zdr,YaU (by simp;omega)];simp[Nat.min_eq_left (Nat.le_of_lt hl),h]
theorem Zox{z:List Int}{i:Nat}{v:Int}(h:z[i]?=some v):(Zdr z i).set i (Zb2 v v)=Zdr z (i+1):=by
 obtain⟨hl,hv⟩:=YaG.1 h;rw[Zdr,List.set_append_right _ _ (by simp;omega),Zdr,List.take_add_one,h];have e:i-((z.take i).map fun v=>Zb2 v v).length=0:=by simp;omega
 rw[e];simp;rw[List.drop_eq_getElem_cons hl,List.set_cons_zero]
theorem Zcn(l P:List Int)(q:Int)(k:Nat)(x:List Int):(Zpu l P q k x).length=szN l (k+1):=by rw[Zpu,Zbg,Zig,ZaD]
theorem Zmg(l:List Int)(n:Nat)(P:List Int)(q:Int)(k:Nat)(x:List Int):(ZsV l n P q k x).length=szN l (k+1):=by
 unfold ZsV
 split
 ·rw[List.length_map,Zcn]
 ·exact Zcn _ _ _ _ _
theorem Zby{l:List Int}{n:Nat}{P:List Int}{q:Int}{x:List Int}(hx:x.length=szN l 0):∀k,(trN l n P q x k).length=szN l k
 |0=>hx
 |k+1=>Zmg _ _ _ _ _ _
theorem Zqj(l P:List Int)(q:Int)(k:Nat)(x:List Int):Zaw (Zpu l P q k x):=by
 intro v hv;obtain⟨i,hi⟩:=List.getElem?_of_mem hv;rw[Zpu,Zbh] at hi;obtain⟨y,hy,rfl⟩:=Option.map_eq_some_iff.1 hi;have hlt:i<szN l (k+1):=by
  have:=(YaG.1 hy).1
  rwa [Zig,ZaD] at this
 rw[if_pos (by omega)];exact ZaZ _
theorem Zqk{v:Int}(h:In1 v):In1 (Zb2 v v):=by
 unfold Zb2
 split
 ·exact h
 ·constructor<;>omega
theorem ZuP(l:List Int)(n:Nat)(P:List Int)(q:Int)(k:Nat)(x:List Int):Zaw (ZsV l n P q k x):=by
 unfold ZsV
 split
 ·intro v hv;obtain⟨y,hy,rfl⟩:=List.mem_map.1 hv;exact Zqk (Zqj l P q k x y hy)
 ·exact Zqj _ _ _ _ _
theorem Zql{l:List Int}{n:Nat}{P:List Int}{q:Int}{x:List Int}(hx:Zaw x):∀k,Zaw (trN l n P q x k)
 |0=>hx
 |k+1=>ZuP _ _ _ _ _ _
abbrev Zel:=Option Addr×Nat×Nat
def Znu(w:World)(base:Nat)(l:List Int)(F:Nat->List Int)(ss:List Zel):Prop:=∀j s,ss[j]?=some s->s.2.1=szN l j/\w.ownsRow base 2 1 (slv s) (szN l j) (iv (F j))
theorem Znu.below{w w':World}{base:Nat}{l:List Int}{F:Nat->List Int}{ss:List Zel}(h:Znu w base l F ss)(hb:Below w.heap.size w w'):Znu w' base l F ss:=fun j s hs=>⟨(h j s hs).1,Zac (h j s hs).2 hb⟩
theorem Znu.stay{t u:TypeId}{w w':World}{base:Nat}{l:List Int}{F:Nat->List Int}{ss:List Zel}(h:Znu w base l F ss)(hs:Zcx t u w w')(hz:w.heap.size<=w'.heap.size)(h1:2≠t)(h2:2≠u):Znu w' base l F ss:=
 fun j s hj=>⟨(h j s hj).1,hs.own hz (h j s hj).2 h1 h2⟩
theorem Znu.snoc{w:World}{base:Nat}{l:List Int}{F:Nat->List Int}{ss:List Zel}{A:Option Addr}{c k:Nat}(h:Znu w base l F ss)(hk:ss.length=k)(hV:w.ownsRow base 2 1 (.slice A (szN l k) c) (szN l k) (iv (F k))):Znu w base l F (ss++[(A,szN l k,c)]):=by
 subst hk;intro j s hs
 by_cases hj:j<ss.length
 ·rw[YaV hj] at hs;exact h j s hs
 ·have h2:=(YaG.1 hs).1;simp at h2;obtain rfl:j=ss.length:=by omega
  rw[YaU (by omega)] at hs;simp at hs;subst hs;exact⟨rfl,hV⟩
theorem ZvZ:Sl prog 276 74 (.slice none 0 0) 1 24:=⟨underlying276,by kernel_rfl,rfl,by omega⟩
def ZsW(l:List Int)(n:Nat)(P:List Int)(q:Int)(x:List Int)(w:World)(e:Ending)(w':World):Prop:=
 ∃A c ss,e=.returned (.tuple #[.slice A n c,.bool true])/\w'.ownsRow w.heap.size 74 1 (.slice A n c) n (ss.map slv)/\ss.length=n/\Znu w' w.heap.size l (trN l n P q x) ss/\Below w.heap.size w w'
theorem Zkq(g base k c:Nat)(A:Option Addr)(ss:List Zel)(z:Zel)(w:World)(hg:Blk w g 276 #[.slice A k c])(ho:w.ownsRow base 74 1 (.slice A k c) k (ss.map slv))(hk:k<=1000)(hb:base<=w.heap.size) :
  Calls prog 246 #[.slice z.1 z.2.1 z.2.2,.pointer (some ⟨g,0,none⟩)] w fun e w'=>e=.returned (.tuple #[])/\∃A' c',Blk w' g 276 #[.slice A' (k+1) c']/\w'.ownsRow base 74 1 (.slice A' (k+1) c') (k+1) ((ss++[z]).map slv)/\Zcx 276 74 w w'/\w.heap.size<=w'.heap.size/\(∀B,B<=base->B<=g->Below B w w'):=by
 obtain⟨z1,z2,z3⟩:=z;have c0:=hg.cell 0;have lg:=hg.lt;have HG:=hid hg;have HO:=hid ho;clear hg ho
 go_enter func246,ntmps246
 go_wp2_with (at_builtin;go_must (refine Zaj ZvZ rfl _ _ rfl base (.slice A k c) k (ss.map slv) rfl HO.out #[.slice z1 z2 z3] w.heap.size rfl rfl rfl (by intro u hu;simp at hu;subst hu;rfl) (by unfold maxLen;omega) (by omega) hb ?_);go_must (intro A' c' wa hown' hb' hgr' hat';(have hK:=HG.out.other HO.out hgr' (by decide));(have v0:=hK.cell 0);(have f0:=hK.frozen 0);(have lk:=hK.lt);(have HK:=hid hK);(have HO2:=hid hown');(have HB2:=hid hb');(have HGR:=hid hgr');clear hK hown' hb' hgr' hat' c0))
 go_end0
 have hg2:=Zak (p:=⟨g,0,none⟩) (World.grownBy.refl wa (some g)) (.inl rfl) (.slice A' (k+1) c');refine⟨rfl,A',c',by simpa using HK.out.set_ 0 (.slice A' (k+1) c'),?_,(Zcx.of_own (t:=276) HO.out HGR.out).trans (Zcx.of_gr HK.out hg2),YaH HGR.out.size hg2.size,fun B h1 h2=>?_⟩
 ·have:=HO2.out.kept hg2 (.inr (Zab HO2.out HK.out (by decide)))
  simpa [slv] using this
 ·exact Zai (HB2.out.mono h1) (YaH (YaH h1 hb) HGR.out.size) hg2 h2
