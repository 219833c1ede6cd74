/- Lemmas. -/
import Derived.Test.YtkmaeipoaoikpaaGreatEC20
namespace Go.Proofs.YtkmaeipoaoikpaaGreat
set_option linter.all false
set_option maxRecDepth 100000
set_option maxHeartbeats 4000000
open Lib (hid)
open Tryz
section
open Go.RowKit
structure WS where
 mss:List MS
 lss:List LS
 cnt:Nat
structure Zg1(own0:Nat->Nat)(w0:World)(own:Nat->Nat)(w:World)(xb:Nat)(I:InC)(mbs lbs:List Nat)(s:WS)(AW:Option Addr)(cW:Nat)(AL:Option Addr)(cL:Nat):Prop where
 wld:Zar own w xb I mbs lbs s.mss s.lss AW cW AL cL s.cnt
 new:∀i,own i≠0->own0 i≠0\/w0.heap.size<=i
 but:But (fun i=>own0 i≠0) w0 w
theorem Zg1.step{own0 own own':Nat->Nat}{w0 w w':World}{xb:Nat}{I:InC}{mbs lbs:List Nat}{s s':WS}{AW:Option Addr}{cW:Nat}{AL:Option Addr}{cL:Nat}(h:Zg1 own0 w0 own w xb I mbs lbs s AW cW AL cL)(hw:Zar own' w' xb I mbs lbs s'.mss s'.lss AW cW AL cL s'.cnt)(hn:∀i,own' i≠0->own i≠0\/w.heap.size<=i)(hb:But (fun i=>own i≠0) w w'):Zg1 own0 w0 own' w' xb I mbs lbs s' AW cW AL cL:=
 ⟨hw,fun i hi=>by
  rcases hn i hi with h1|h1
  ·exact h.new i h1
  ·exact .inr (YaH h.but.size h1),ZgW (S:=fun i=>own0 i≠0) h.but hb (fun i hi h1=>by
   rcases h.new i h1 with h2|h2
   ·exact h2
   ·omega)⟩
theorem Zg1.below{own0 own:Nat->Nat}{w0 w w':World}{xb:Nat}{I:InC}{mbs lbs:List Nat}{s:WS}{AW:Option Addr}{cW:Nat}{AL:Option Addr}{cL:Nat}(h:Zg1 own0 w0 own w xb I mbs lbs s AW cW AL cL)(hb:Below w.heap.size w w'):Zg1 own0 w0 own w' xb I mbs lbs s AW cW AL cL:=
 h.step (h.wld.below hb (fun _ _=>rfl)) (fun i hi=>.inl hi) (But.of_below _ hb)
def Zxw(own0:Nat->Nat)(w0:World)(xb:Nat)(I:InC)(mbs lbs:List Nat)(σ:Nat->WS)(AW:Option Addr)(cW:Nat)(AL:Option Addr)(cL N most:Nat)(a':Act)(w':World):Prop:=∃(p:Nat) (own:Nat->Nat) (u6 u7 u8 u9 u10 u11 u12 u13 u14 u15 u16 u17 u18 u19 u20 u21 u22 u23 u24 u25 u26:Value),p<=N/\Zg1 own0 w0 own w' xb I mbs lbs (σ p) AW cW AL cL/\a'={ tmps:=#[.pointer (some ⟨xb,0,none⟩),.int .i64 most,undef,undef,.int .i64 p,.bool false,u6,u7,u8,u9,u10,u11,u12,u13,u14,u15,u16,u17,u18,u19,u20,u21,u22,u23,u24,u25,u26],defers:=[] }
theorem Zg2{own0:Nat->Nat}{w:World}{xb:Nat}{I:InC}{mbs lbs:List Nat}{AW:Option Addr}{cW:Nat}{AL:Option Addr}{cL:Nat}(σ:Nat->WS)(N most n:Nat)(h:Zar own0 w xb I mbs lbs (σ 0).mss (σ 0).lss AW cW AL cL (σ 0).cnt)(hn:mbs.length=n)(hn1:1<=n)(hn64:n<=64)(hNm:N<=most)(hm9:most<=1000000000)(hd:∀p,p<N->Zet (σ p).mss=false)(hdN:Zet (σ N).mss=true)
  (hp:∀p own W,p<N->Zar own W xb I mbs lbs (σ p).mss (σ p).lss AW cW AL cL (σ p).cnt->Calls prog 71 #[.pointer (some ⟨xb,0,none⟩),.int .i64 (p%n:Nat)] W fun e w'=>∃r,e=.returned (.bool r)/\∃own',Zar own' w' xb I mbs lbs (σ (p+1)).mss (σ (p+1)).lss AW cW AL cL (σ (p+1)).cnt/\(∀i,own' i≠0->own i≠0\/W.heap.size<=i)/\But (fun i=>own i≠0) W w') :
  Calls prog 19 #[.pointer (some ⟨xb,0,none⟩),.int .i64 most] w fun e w'=>e=.returned (.tuple #[.int .i64 N,.bool true])/\∃own,Zg1 own0 w own w' xb I mbs lbs (σ N) AW cW AL cL:=by
 have HW:=hid h;have HN:=hid hn;have HD:=hid hd;have HDN:=hid hdN;have HP:=hid hp;clear h hn hd hdN hp
 go_enter func19,ntmps19
 go_wp2_with fail;refine wp_scope_jumps 0 (Zxw own0 w xb I mbs lbs σ AW cW AL cL N most) (fun a' _=>N-(intOf (a'.tmps.getD 4 undef)).toNat) rfl ?_ ?_
 ·go_wp2_with fail
  go_step3
  have hR:Zg1 own0 w own0 w xb I mbs lbs (σ 0) AW cW AL cL:=⟨HW.out,fun i hi=>.inl hi,But.refl _ _⟩;obtain⟨p,hp0⟩:∃p,p=0:=⟨0,rfl⟩;obtain⟨own,hown⟩:∃own,own=own0:=⟨_,rfl⟩;have hpN:p<=N:=by omega
  have hR':Zg1 own0 w own w xb I mbs lbs (σ p) AW cW AL cL:=by rw[hown,hp0];exact hR
  rw[show (Value.int IntKind.i64 0)=.int .i64 (p:Int) by rw[hp0];rfl];clear hR;have hR:=hR';clear hR' hp0 hown;have HRr:=hid hR;have HDO:=hid (ZbI hR.wld n HN.out hn64);clear hR;go_wp2_with fail;((with_reducible refine HDO.out.mono ?_);rintro e w1 ⟨rfl,hb1⟩);have HR1:=hid (HRr.out.below hb1);clear hb1 HDO
  rcases Nat.lt_or_eq_of_le hpN with hlt|heq
  ·have e1:=HD.out p hlt;rw[e1];have e2:decide ((most:Int)<=(p:Int))=false:=YaI (by omega);have e3:decide (most<=p)=false:=YaI (by omega);have x0:w1.cell? ⟨xb,0,none⟩=some (.slice AW n cW):=by have:=HR1.out.wld.blk.cell 0;rw[HN.out] at this;exact this
   have xl:=HR1.out.wld.blk.lt;obtain⟨y,hy⟩:∃y,p%n=y:=⟨_,rfl⟩;have hm:(p:Int)%(n:Int)=(y:Int):=by rw[<-hy];exact(Int.natCast_emod p n).symm
   have nz:¬(n:Int)=0:=by omega
   have HPK:=hid (HP.out p own w1 hlt HR1.out.wld);rw[hy] at HPK;clear e1 hy;go_wp2_with fail;((with_reducible refine HPK.out.mono ?_);rintro e w2 ⟨r,rfl,own',hW2,hn2,hb2⟩);have HR2:=hid (HR1.out.step (s':=σ (p+1)) hW2 hn2 hb2);obtain⟨p2,hp2⟩:∃p2,p+1=p2:=⟨_,rfl⟩;have hwp:IntKind.i64.wrap ((p:Int)+1)=(p2:Int):=by rw[show (p:Int)+1=(p2:Int) by omega];exact IntWalk.i64_in _ (by omega)
   have HP2:=hid hp2;clear hW2 hn2 hb2 hp2 x0 xl HPK;go_wp2_with fail
   go_step3
   refine⟨rfl,?_⟩;have hr:=HR2.out;rw[HP2.out] at hr;exact⟨p2,own',_,_,_,_,_,_,_,_,_,_,_,_,_,_,_,_,_,_,_,_,_,by have:=HP2.out;omega,hr,rfl⟩
  ·subst heq;rw[HDN.out];have HDO2:=hid (ZbI HR1.out.wld n HN.out hn64);go_wp2_with fail;((with_reducible refine HDO2.out.mono ?_);rintro e w2 ⟨rfl,hb2⟩);rw[HDN.out];have HR2:=hid (HR1.out.below hb2);clear hb2;go_wp2_with fail;simp only[Exit.jump]
   go_ret2
   exact⟨rfl,own,HR2.out⟩
 ·rintro a' wr ⟨p,own,u6,u7,u8,u9,u10,u11,u12,u13,u14,u15,u16,u17,u18,u19,u20,u21,u22,u23,u24,u25,u26,hpN,hR,rfl⟩;have HRr:=hid hR;have HDO:=hid (ZbI hR.wld n HN.out hn64);clear hR;go_wp2_with fail;((with_reducible refine HDO.out.mono ?_);rintro e w1 ⟨rfl,hb1⟩);have HR1:=hid (HRr.out.below hb1);clear hb1 HDO
  rcases Nat.lt_or_eq_of_le hpN with hlt|heq
  ·have e1:=HD.out p hlt;rw[e1];have e2:decide ((most:Int)<=(p:Int))=false:=YaI (by omega);have e3:decide (most<=p)=false:=YaI (by omega);have x0:w1.cell? ⟨xb,0,none⟩=some (.slice AW n cW):=by have:=HR1.out.wld.blk.cell 0;rw[HN.out] at this;exact this
   have xl:=HR1.out.wld.blk.lt;obtain⟨y,hy⟩:∃y,p%n=y:=⟨_,rfl⟩;have hm:(p:Int)%(n:Int)=(y:Int):=by rw[<-hy];exact(Int.natCast_emod p n).symm
   have nz:¬(n:Int)=0:=by omega
   have HPK:=hid (HP.out p own w1 hlt HR1.out.wld);rw[hy] at HPK;clear e1 hy;go_wp2_with fail;((with_reducible refine HPK.out.mono ?_);rintro e w2 ⟨r,rfl,own',hW2,hn2,hb2⟩);have HR2:=hid (HR1.out.step (s':=σ (p+1)) hW2 hn2 hb2);obtain⟨p2,hp2⟩:∃p2,p+1=p2:=⟨_,rfl⟩;have hwp:IntKind.i64.wrap ((p:Int)+1)=(p2:Int):=by rw[show (p:Int)+1=(p2:Int) by omega];exact IntWalk.i64_in _ (by omega)
   have HP2:=hid hp2;clear hW2 hn2 hb2 hp2 x0 xl HPK;go_wp2_with fail
   go_step3
   refine⟨rfl,?_,?_⟩
   rotate_left
   ·simp[intOf];have:=HP2.out;omega
   have hr:=HR2.out;rw[HP2.out] at hr;exact⟨p2,own',_,_,_,_,_,_,_,_,_,_,_,_,_,_,_,_,_,_,_,_,_,by have:=HP2.out;omega,hr,rfl⟩
  ·subst heq;rw[HDN.out];have HDO2:=hid (ZbI HR1.out.wld n HN.out hn64);go_wp2_with fail;((with_reducible refine HDO2.out.mono ?_);rintro e w2 ⟨rfl,hb2⟩);rw[HDN.out];have HR2:=hid (HR1.out.below hb2);clear hb2;go_wp2_with fail;simp only[Exit.jump]
   go_ret2
   exact⟨rfl,own,HR2.out⟩
def Zrm(w:World)(NP:Nat)(r:List (List Int×List Int))(e:Ending)(w':World):Prop:=
 ∃A c l,l.length=r.length/\e=.returned (.slice A r.length c)/\w'.ownsRow w.heap.size 92 2 (.slice A r.length c) r.length (stv NP NP l)/\ZcO w' w.heap.size NP NP l (ZjY r)/\Bz0 w w'
theorem Zk8(F:Nat->Prop)(mb:Nat)(K:MC)(s:MS)(a:MA)(w:World)(hK:K.Ok)(h:ZaQ F w mb K s a)(hlen:∀i,i<s.rcd.length->(ZjY s.rcd (i+1)).1.length=K.NP/\(ZjY s.rcd (i+1)).2.length=K.NP) :
  Calls prog 56 #[.pointer (some ⟨mb,0,none⟩)] w (Zrm w K.NP s.rcd):=by
 obtain⟨n,hn⟩:∃n,s.rcd.length=n:=⟨_,rfl⟩;have hrl:=h.rl;have m14:w.cell? ⟨mb,14,none⟩=some (.slice a.AR n a.cR):=by rw[<-hn];exact h.blk.cell 14
 have ml:=h.blk.lt;have hR:=Rd.of_own h.rrow;have hS:=h.fz.here.rsr;have hSL:=h.fz.here.rsl;rw[hn] at hR hSL hlen hrl;have HR:=hid hR;have HS:=hid hS;have HSL:=hid hSL;have HN:=hid hn;have HLEN:=hid hlen;have HNP:=hid hK.np;clear h hR hS hSL hn hlen hK
 go_enter func56,ntmps56
 go_wp2_with fail;clear m14 ml
 go_loopw [3,13] (fun o v wr=>∃(i:Nat) (A:Option Addr) (c:Nat) (l:List StS),i<=n/\o=.slice A i c/\v=.int .i64 i/\wr.ownsRow w.heap.size 92 2 (.slice A i c) i (stv K.NP K.NP l)/\l.length=i/\ZcO wr w.heap.size K.NP K.NP l (ZjY s.rcd)/\Bz0 w wr) (fun _ v _=>n-(intOf v).toNat)
 case atStart=>exact⟨0,none,0,[],by omega,rfl,rfl,World.ownsRow_nil _ _ _ _,rfl,fun i s h=>by simp at h,bR0 _ _⟩
 case round=>
  obtain⟨i,A,c,l,hi,rfl,rfl,hz,hll,hos,hb⟩:=hrel
  by_cases hlt:i<n
  ·obtain⟨⟨A1,c1,A2,c2⟩,hs4⟩:∃s,a.rs[i]?=some s:=⟨_,YaA (by rw[HSL.out];exact hlt)⟩;obtain⟨b5,o5,hA5,l5,q0,q1⟩:=ZgN (HR.out.below hb) hs4 hlt;dsimp only at q0 q1;obtain⟨h1,h2⟩:=HS.out i _ hs4;obtain⟨e1,e2⟩:=HLEN.out i hlt;have HZ:=hid hz;have HLL:=hid hll;have HOS:=hid hos;have HB:=hid hb;have HX1:=hid h1;have HX2:=hid h2;have HE1:=hid e1;have HE2:=hid e2;have HLT:=hid hlt;have HAR:=hid hA5;have r1:(0:Int)<=(i:Int):=by omega
   have r2:(i:Int)<(n:Int):=by omega
   clear hz hll hos hb h1 h2 e1 e2 hs4 hlt hA5;rw[HAR.out];go_wp2_with fail;have hwr:Below w.heap.size w (wr.alloc (.cells #[.slice A1 K.NP c1,.slice A2 K.NP c2] 92)):=HB.out.alloc HB.out.size _;have ho1:=ZcO.below (w':=wr.alloc (.cells #[.slice A1 K.NP c1,.slice A2 K.NP c2] 92)) HOS.out ((bR0 wr.heap.size wr).alloc (YaF _) _);have hz1:(wr.alloc (.cells #[.slice A1 K.NP c1,.slice A2 K.NP c2] 92)).ownsRow w.heap.size 92 2 (.slice A i c) i (stv K.NP K.NP l):=Zac HZ.out ((bR0 wr.heap.size wr).alloc (YaF _) _);obtain⟨w1,hw1⟩:∃w1,wr.alloc (.cells #[.slice A1 K.NP c1,.slice A2 K.NP c2] 92)=w1:=⟨_,rfl⟩;rw[hw1] at hwr ho1 hz1 ⊢;have HC:=hid (Zdy A1 A2 K.NP K.NP c1 c2 _ _ w1 HE1.out HE2.out (Rd.of_own (Zac HX1.out hwr)) (Rd.of_own (Zac HX2.out hwr)) (by have:=HNP.out;omega) (by have:=HNP.out;omega));have HW1:=hid hwr;have HO1:=hid ho1;have HZ1:=hid hz1;clear hw1 hwr ho1 hz1;((with_reducible refine HC.out.mono ?_);rintro e w2 ⟨AP,cP,AM,cM,rfl,hp2,hm2,hpm,hb2⟩);have hb2':Below w1.heap.size w1 w2:=hb2;have hp2':w2.ownsRow w1.heap.size 2 1 (.slice AP K.NP cP) K.NP (iv (ZjY s.rcd (i+1)).1):=hp2;have hm2':w2.ownsRow w1.heap.size 2 1 (.slice AM K.NP cM) K.NP (iv (ZjY s.rcd (i+1)).2):=hm2;have HW2:=hid (bT0 HW1.out hb2');have HO2:=hid (HO1.out.below hb2');have HZ2:=hid (Zac HZ1.out hb2');have HP2:=hid (Zae hp2' HW1.out.size);have HQ2:=hid (Zae hm2' HW1.out.size);clear hp2 hm2 hpm hb2 hb2' hp2' hm2' HC
   go_wp2_with (at_builtin;go_must (refine Zaj Zre rfl _ _ rfl w.heap.size (.slice A i c) i (stv K.NP K.NP l) rfl HZ2.out #[.slice AP K.NP cP,.slice AM K.NP cM] w2.heap.size rfl rfl rfl (by intro u hu;simp at hu;rcases hu with rfl|rfl<;>rfl) (by unfold maxLen;omega) (by omega) HW2.out.size ?_);go_must (intro A' c' wa hown' hb' hgr' hat'))
   have hlt:=HLT.out;refine⟨⟨i+1,A',c',l++[(AP,cP,AM,cM)],by omega,rfl,rfl,?_,by rw[YaS,HLL.out];rfl,?_,HW2.out.trans hb'⟩,?_⟩
   ·have:stv K.NP K.NP (l++[(AP,cP,AM,cM)])=stv K.NP K.NP l++#[Value.slice AP K.NP cP,Value.slice AM K.NP cM].toList:=by simp[stv]
    rw[this];exact hown'
   ·refine ZcO.snoc (HO2.out.row HZ2.out (by decide) hgr') ?_ ?_
    ·rw[HLL.out];exact HP2.out.kept hgr' (Zbz HP2.out HZ2.out (by decide))
    ·rw[HLL.out];exact HQ2.out.kept hgr' (Zbz HQ2.out HZ2.out (by decide))
   ·simp[intOf];omega
  ·obtain rfl:i=n:=by omega
   have HZ:=hid hz;have HLL:=hid hll;have HOS:=hid hos;have HB:=hid hb;have r2:¬(i:Int)<(i:Int):=by omega
   clear hz hll hos hb hlt;go_wp2_with fail;go_ret;exact⟨A,c,l,by rw[HLL.out,HN.out],by rw[HN.out];rfl,by rw[HN.out];exact HZ.out,HOS.out,HB.out⟩
theorem ZjD{own:Nat->Nat}{w:World}{xb:Nat}{I:InC}{mbs lbs:List Nat}{mss:List MS}{lss:List LS}{AW:Option Addr}{cW:Nat}{AL:Option Addr}{cL cnt:Nat}(h:Zar own w xb I mbs lbs mss lss AW cW AL cL cnt)(hO:I.Ok)(n x:Nat)(s:MS)(hn:mbs.length=n)(hl:lbs.length=n)(hx:x<n)(hn64:n<=64)(hxw:(x:Int)<I.c.wk)(hs:mss[x]?=some s)(hlen:∀i,i<s.rcd.length->(ZjY s.rcd (i+1)).1.length=(I.mc x).NP/\(ZjY s.rcd (i+1)).2.length=(I.mc x).NP) :
  Calls prog 32 #[.pointer (some ⟨xb,0,none⟩),.int .i64 x] w (Zrm w (I.mc x).NP s.rcd):=by
 obtain⟨b,hb⟩:∃b,mbs[x]?=some b:=⟨_,YaA (by omega)⟩;obtain⟨li,hli⟩:∃b,lbs[(x+n-1)%n]?=some b:=⟨_,YaA (by rw[hl];exact Nat.mod_lt _ (by omega))⟩;obtain⟨lo,hlo⟩:∃b,lbs[x]?=some b:=⟨_,YaA (by omega)⟩;have HAT:=hid (Zer h n x b li lo hn hl hx hn64 hb hli hlo);have HP:=hid (h.parts.mach x b s hb hs);have HK:=hid (hO.mc hxw);have HLEN:=hid hlen;have hme:=Zf6 b;obtain⟨K,hK⟩:∃K,I.mc x=K:=⟨_,rfl⟩;rw[hK] at HP HK HLEN ⊢;clear h hO hn hl hx hn64 hxw hs hb hli hlo hlen hK
 go_enter func32,ntmps32
 go_wp2_with fail;((with_reducible refine HAT.out.mono ?_);rintro e w1 ⟨rfl,hb1⟩);have HB1:=hid hb1;obtain⟨F,a,hM,-,-⟩:=HP.out.step hb1.size (fun i hi _=>hb1.block i hi);have HC:=hid (Zk8 F b K s a w1 HK.out hM HLEN.out);clear hb1 hM;go_wp2_with fail;((with_reducible refine HC.out.mono ?_);rintro e w2 ⟨A,c,l,hll,rfl,ho,hos,hb2⟩);have HO:=hid ho;have HOS:=hid hos;have HB2:=hid hb2;have HLL:=hid hll;clear ho hos hb2 hll hme;go_wp2_with fail;go_ret;exact⟨A,c,l,HLL.out,rfl,Zae HO.out HB1.out.size,HOS.out.base HB1.out.size,bT0 HB1.out HB2.out⟩
def ZjE(K:MC)(x:ZaH):Bool:=
 decide (0<=x.1.2.1) && decide (x.1.2.1<=1000000) && (!decide (x.1.1=1) || (decide (-1000<=x.1.2.2) && decide (x.1.2.2<=1000))) && (!decide (x.1.1=5) || (decide (0<=x.1.2.2) && decide (x.1.2.2.toNat<K.pc.nb))) &&
 (!(decide (x.1.1=3) || decide (x.1.1=4)) || (decide (0<=x.2.2.2.1) && decide (x.2.2.2.1<=x.2.2.2.2) && decide (x.2.2.2.2<=K.NP)))
theorem Ze8{K:MC}{x:ZaH}(h:ZjE K x=true):ZfT K x:=by
 simp only[ZjE,YaQ,decide_eq_true_eq,Bool.or_eq_true,Bool.not_eq_true',decide_eq_false_iff_not,Bool.or_eq_false_iff] at h;obtain⟨⟨⟨⟨h1,h2⟩,h3⟩,h4⟩,h5⟩:=h;refine⟨⟨h1,h2⟩,fun e=>?_,fun e=>?_,fun e=>?_⟩
 ·rcases h3 with h|h
  ·exact absurd e h
  ·exact h
 ·rcases h4 with h|h
  ·exact absurd e h
  ·exact⟨x.1.2.2.toNat,by omega,h.2⟩
 ·rcases h5 with h|⟨⟨h6,h7⟩,h8⟩
  ·rcases e with e|e
   ·exact absurd e h.1
   ·exact absurd e h.2
  ·exact⟨x.2.2.2.1.toNat,x.2.2.2.2.toNat,by omega,by omega,by omega,by omega⟩
def Zk9(s:MS):Bool:=decide (s.cnt<1000000000000) && decide (s.opn.length<1000000) && decide (s.rcd.length<1000)
theorem Ze9{s:MS}(h:Zk9 s=true):s.Small:=by
 simp only[Zk9,YaQ,decide_eq_true_eq] at h;exact⟨h.1.1,h.1.2,h.2⟩
def Zf7(I:InC)(n x:Nat)(s:WS):WS:=
 match s.mss[x]? with
 |none=>s
 |some m=>
  match m.its[m.nx]? with
  |none=>s
  |some it=>
   if it.1.1=3 then
    match s.lss[x]? with
    |none=>s
    |some l=>⟨s.mss.set x (ZaS (I.mc x) m it.1.2.1),s.lss.set x ⟨l.s+1,l.r,l.q++[(it.2.2.1,pcL m.G it.2.2.2.1.toNat (it.2.2.2.2-it.2.2.2.1).toNat)]⟩,s.cnt+1⟩
   else if it.1.1=4 then
    match s.lss[(x+n-1)%n]? with
    |none=>s
    |some l=>
     match l.q with
     |[]=>s
     | (_,vs)::q=>⟨s.mss.set x (ZaS (I.mc x) { m with G:=ZdF it.2.1.2 m.G it.2.2.2.1.toNat (it.2.2.2.2-it.2.2.2.1).toNat vs } it.1.2.1),s.lss.set ((x+n-1)%n) ⟨l.s,l.r+1,q⟩,s.cnt+1⟩
   else ⟨s.mss.set x (ZaS (I.mc x) (Za1 (I.mc x) m it) it.1.2.1),s.lss,s.cnt+1⟩
def ZhO(I:InC)(n x:Nat)(s:WS):Bool:=
 match s.mss[x]? with
 |none=>false
 |some m=>
  match m.its[m.nx]? with
  |none=>false
  |some it=>
   ZjE (I.mc x) it && (Zk9 m && (decide (s.cnt<1000000000000) &&
   (if it.1.1=3 then
    match s.lss[x]? with
    |none=>false
    |some l=>decide (l.s-l.r<I.c.ca.toNat) && decide (l.s<1000000000)
   else if it.1.1=4 then
    match s.lss[(x+n-1)%n]? with
    |none=>false
    |some l=>
     match l.q with
     |[]=>false
     | (t,vs)::_=>decide (t=it.2.2.1) && decide (vs.length=(it.2.2.2.2-it.2.2.2.1).toNat)
   else decide (it.1.1=1) || (decide (it.1.1=2) || (decide (it.1.1=5) || decide (it.1.1=6))))))
theorem Zrn{own:Nat->Nat}{W:World}{xb:Nat}{I:InC}{mbs lbs:List Nat}{s:WS}{AW:Option Addr}{cW:Nat}{AL:Option Addr}{cL:Nat}(h:Zar own W xb I mbs lbs s.mss s.lss AW cW AL cL s.cnt)(hO:I.Ok)(n x:Nat)(hn:mbs.length=n)(hl:lbs.length=n)(hx:x<n)(hn64:n<=64)(hxw:(x:Int)<I.c.wk)(hB:ZhO I n x s=true) :
  Calls prog 71 #[.pointer (some ⟨xb,0,none⟩),.int .i64 x] W fun e w'=>∃r,e=.returned (.bool r)/\∃own',Zar own' w' xb I mbs lbs (Zf7 I n x s).mss (Zf7 I n x s).lss AW cW AL cL (Zf7 I n x s).cnt/\(∀i,own' i≠0->own i≠0\/W.heap.size<=i)/\But (fun i=>own i≠0) W w':=by
 unfold ZhO at hB;unfold Zf7
 split at hB
 ·cases hB
 ·rename_i m hm
  split at hB
  ·cases hB
  ·rename_i it hit
   simp only[YaQ,decide_eq_true_eq] at hB;obtain⟨h1,h2,h3,h4⟩:=hB
   (try simp only[hm,hit])
   by_cases e3:it.1.1=3
   ·rw[if_pos e3] at h4 ⊢
    split at h4
    ·cases h4
    ·rename_i l hl'
     simp only[YaQ,decide_eq_true_eq] at h4
     (try simp only[hl'])
     refine(ZhM h hO n x m l it hn hl hx hn64 hxw h3 hm hl' hit e3 (Ze8 h1) (Ze9 h2) h4.1 h4.2).mono ?_;rintro e w' ⟨e1,own',hw,hnw,hb⟩;exact⟨true,e1,own',hw,hnw,hb⟩
   ·rw[if_neg e3] at h4 ⊢
    by_cases e4:it.1.1=4
    ·rw[if_pos e4] at h4 ⊢
     split at h4
     ·cases h4
     ·rename_i l hl'
      (try simp only[hl'])
      split at h4
      ·cases h4
      ·rename_i t vs q hq
       simp only[YaQ,decide_eq_true_eq] at h4;obtain⟨ht,hv⟩:=h4;subst ht
       (try simp only[hq])
       refine(ZhN h hO n x _ m l it vs q hn hl hx hn64 hxw h3 hm rfl hl' hit e4 (Ze8 h1) (Ze9 h2) hq hv).mono ?_;rintro e w' ⟨e1,own',hw,hnw,hb⟩;exact⟨true,e1,own',hw,hnw,hb⟩
    ·rw[if_neg e4] at h4 ⊢;simp only[Bool.or_eq_true,decide_eq_true_eq] at h4;refine(Zjz h hO n x m it hn hl hx hn64 hxw h3 hm hit h4 (Ze8 h1) (Ze9 h2)).mono ?_;rintro e w' ⟨e1,own',hw,hnw,hb⟩;exact⟨true,e1,own',hw,hnw,hb⟩
def ZbA(I:InC)(n:Nat):WS:=⟨Ze4 I n,Ze5 n,0⟩
end
section
open Go.RowKit
variable(c:PlC)
def PlC.sl:Nat:=(c.stepS 60).length
def PlC.itN(x i:Nat):Option ZaH:=match (c.stepS 60)[i%c.sl]? with
 |some s=>c.itS x ((i/c.sl:Nat):Int) s
 |none=>none
def PlC.nxf(x t q:Nat):Nat:=(((c.stepS 60).take q).filterMap (c.itS x (t:Int))).length
def PlC.cn(x:Nat):Nat->Nat
 |0=>0
 |p+1=>PlC.cn x p+if c.kdN 60 x p=0 then 0 else 1
end
section
open Go.RowKit
variable{c:PlC}
theorem Zgl(x:Nat)(t:Int)(s:Sl4):c.kdS x s=0↔c.itS x t s=none:=by
 unfold PlC.kdS PlC.itS
 split
 ·split
  ·rename_i h
   rw[YaA h];simp
  ·rename_i h
   rw[YaN (by omega)];simp
 ·split
  ·split
   ·rename_i h
    rw[YaA h];simp
   ·rename_i h
    rw[YaN (by omega)];simp
  ·simp
theorem ZfU:1<=c.sl:=Zk6 c 60
theorem ZdG(t q:Nat)(hq:q<c.sl):(t*c.sl+q)%c.sl=q/\(t*c.sl+q)/c.sl=t:=by
 have:=ZfU (c:=c);rw[Nat.mul_comm];exact⟨by rw[Nat.mul_add_mod,Nat.mod_eq_of_lt hq],by rw[Nat.mul_add_div (by omega),Nat.div_eq_of_lt hq,Nat.add_zero]⟩
theorem ZdT(p:Nat):p=p/c.sl*c.sl+p%c.sl/\p%c.sl<c.sl:=by
 refine⟨?_,Nat.mod_lt _ ZfU⟩;have:=Nat.div_add_mod p c.sl;rw[Nat.mul_comm] at this;omega
theorem Zgm(x t q:Nat)(hq:q<c.sl):c.nxf x t (q+1)=c.nxf x t q+if c.kdN 60 x (t*c.sl+q)=0 then 0 else 1:=by
 unfold PlC.nxf;have hs:(c.stepS 60)[q]?=some (c.stepS 60)[q]:=YaA hq;rw[List.take_add_one,hs,List.filterMap_append,YaS]
 congr 1
 have e:c.kdN 60 x (t*c.sl+q)=c.kdS x (c.stepS 60)[q]:=by
  unfold PlC.kdN;have:=(ZdG (c:=c) t q hq).1;unfold PlC.sl at this;unfold PlC.sl;rw[this,hs]
 rw[e]
 by_cases h:c.kdS x (c.stepS 60)[q]=0
 ·have h2:=(Zgl x (t:Int) _).1 h;rw[if_pos h];simp[h2]
 ·have h2:c.itS x (t:Int) (c.stepS 60)[q]≠none:=fun e=>h ((Zgl x (t:Int) _).2 e)
  obtain⟨it,hit⟩:=Option.ne_none_iff_exists'.1 h2;rw[if_neg h];simp[hit]
theorem Zro(x t q q':Nat)(hq:q<=q')(hL:q'<=c.sl)(h:∀i,q<=i->i<q'->c.kdN 60 x (t*c.sl+i)=0):c.nxf x t q'=c.nxf x t q:=by
 induction q' with
 |zero=>rw[show q=0 by omega]
 |succ q' ih=>
  by_cases e:q=q'+1
  ·rw[e]
  ·rw[Zgm x t q' (by omega),if_pos (h q' (by omega) (by omega)),Nat.add_zero];exact ih (by omega) (by omega) (fun i h1 h2=>h i h1 (by omega))
theorem ZnU(x p p':Nat)(hp:p<=p')(h:∀i,p<=i->i<p'->c.kdN 60 x i=0):c.cn x p'=c.cn x p:=by
 induction p' with
 |zero=>rw[show p=0 by omega]
 |succ p' ih=>
  by_cases e:p=p'+1
  ·rw[e]
  ·rw[PlC.cn,if_pos (h p' (by omega) (by omega)),Nat.add_zero];exact ih (by omega) (fun i h1 h2=>h i h1 (by omega))
theorem ZjF(x:Nat){p p':Nat}(hp:p<=p'):c.cn x p<=c.cn x p':=by
 induction p' with
 |zero=>rw[show p=0 by omega];exact YaF _
 |succ p' ih=>
  by_cases e:p=p'+1
  ·rw[e];exact YaF _
  ·rw[PlC.cn];have:=ih (by omega);omega
theorem ZjG(x t:Nat):∀q,q<=c.sl->c.cn x (t*c.sl+q)=c.cn x (t*c.sl)+c.nxf x t q
 |0,_=>by simp[PlC.nxf]
 |q+1,h=>by
  rw[<-Nat.add_assoc,PlC.cn,ZjG x t q (by omega),Zgm x t q (by omega)];omega
theorem Zrp(h:c.Ok)(x t:Nat)(hx:x<c.m):c.nxf x t c.sl=(c.itemsI x (t:Int)).length:=by
 unfold PlC.nxf PlC.sl;rw[List.take_length,ZgY h x hx]
theorem Zvf(h:c.Ok)(x t q:Nat)(hx:x<c.m)(hq:q<c.sl)(hk:c.kdN 60 x (t*c.sl+q)≠0):∃s it,(c.stepS 60)[q]?=some s/\c.itS x (t:Int) s=some it/\c.itN x (t*c.sl+q)=some it/\(c.itemsI x (t:Int))[c.nxf x t q]?=some it:=by
 have hs:(c.stepS 60)[q]?=some (c.stepS 60)[q]:=YaA hq;have ha:=ZdG (c:=c) t q hq;have e:c.kdN 60 x (t*c.sl+q)=c.kdS x (c.stepS 60)[q]:=by
  unfold PlC.kdN;have:=ha.1;unfold PlC.sl at this;unfold PlC.sl;rw[this,hs]
 rw[e] at hk;have h2:c.itS x (t:Int) (c.stepS 60)[q]≠none:=fun e=>hk ((Zgl x (t:Int) _).2 e)
 obtain⟨it,hit⟩:=Option.ne_none_iff_exists'.1 h2;refine⟨_,it,hs,hit,?_,?_⟩
 ·unfold PlC.itN;rw[ha.1,ha.2,hs];exact hit
 ·rw[ZgY h x hx];have h3:c.stepS 60=(c.stepS 60).take q++(c.stepS 60)[q]::(c.stepS 60).drop (q+1):=by
   rw[<-List.drop_eq_getElem_cons hq,List.take_append_drop]
  have h4:(c.stepS 60).filterMap (c.itS x (t:Int))=((c.stepS 60).take q).filterMap (c.itS x (t:Int))++it::((c.stepS 60).drop (q+1)).filterMap (c.itS x (t:Int)):=by
   rw[h3,List.filterMap_append,YaO,hit,<-h3]
  rw[h4];unfold PlC.nxf;rw[YaU (YaF _),Nat.sub_self];rfl
theorem Zrq(x t:Nat):c.kdN 60 x (t*c.sl+(c.sl-1))=1:=by
 have hp:=ZfU (c:=c);have:=(ZdG (c:=c) t (c.sl-1) (by omega)).1;unfold PlC.kdN;unfold PlC.sl at this ⊢;rw[this,Zo5];rfl
theorem Ztu(h:c.Ok)(x t:Nat):c.kdN 60 x (t*c.sl)=1:=by
 unfold PlC.kdN PlC.sl;rw[Nat.mul_mod_left,Zg0 h];rfl
end
section
open Go.RowKit
structure Cr where
 P:List Int
 M:List Int
 G:List Int
 rcd:List (List Int×List Int)
 opn:List Int
def ZmO(m:MS):Cr:=⟨m.P,m.M,m.G,m.rcd,m.opn⟩
def Cr.ms(s:Cr):MS:=⟨s.P,s.M,s.G,s.rcd,[],0,0,s.opn⟩
theorem Zvg(K:MC)(m:MS)(it:ZaH):ZmO (Za1 K m it)=ZmO (Za1 K (ZmO m).ms it)/\(Za1 K m it).its=m.its/\(Za1 K m it).nx=m.nx/\(Za1 K m it).cnt=m.cnt:=by
 unfold Za1
 split
 ·exact⟨rfl,rfl,rfl,rfl⟩
 ·split
  ·exact⟨rfl,rfl,rfl,rfl⟩
  ·split
   ·split<;>exact⟨rfl,rfl,rfl,rfl⟩
   ·split<;>exact⟨rfl,rfl,rfl,rfl⟩
theorem Zrr(K:MC)(m:MS)(t:Int):ZmO (ZaS K m t)=ZmO m:=by
 unfold ZaS
 split<;>rfl
def Zwn(it:ZaH)(G:List Int):Zfh×List Int:=(it.2.2.1,pcL G it.2.2.2.1.toNat (it.2.2.2.2-it.2.2.2.1).toNat)
def InC.rg(I:InC):Rg Cr (Zfh×List Int) where
 n:=(I.mc 0).pc.m
 N:=I.c.st.toNat*(I.mc 0).pc.sl
 kd:=(I.mc 0).pc.kdN 60
 loc x i s:=match (I.mc 0).pc.itN x i with
  |some it=>ZmO (Za1 (I.mc x) s.ms it)
  |none=>s
 msg x i s:=match (I.mc 0).pc.itN x i with
  |some it=>Zwn it s.G
  |none=>((0,0,0,0,0),[])
 rcv x i v s:=match (I.mc 0).pc.itN x i with
  |some it=>{ s with G:=ZdF it.2.1.2 s.G it.2.2.2.1.toNat (it.2.2.2.2-it.2.2.2.1).toNat v.2 }
  |none=>s
 s0 x:=ZmO (ZdD I x)
theorem Zd1{I:InC}(h:(I.mc 0).pc.Ok):I.rg.Ok:=
 ⟨h.m1,fun e x i=>Zve e 60 x i,fun x i _=>Ztt h 60 x i,fun x e=>by have:=ZnT h 60 x;exact absurd (this.symm.trans e) (by decide),fun x y i=>Zvd 60 x y i⟩
structure Zvh(I:InC)(x p:Nat)(m:MS):Prop where
 cr:ZmO m=I.rg.sy p x
 its:m.its=(I.mc 0).pc.stepI I.c.st.toNat x ((p/(I.mc 0).pc.sl:Nat):Int)
 nx:m.nx=(I.mc 0).pc.nxf x (p/(I.mc 0).pc.sl) (p%(I.mc 0).pc.sl)
 cnt:m.cnt=(I.mc 0).pc.cn x p
end
section
open Go.RowKit
variable{I:InC}{x p p':Nat}{m:MS}
theorem ZnV(hx:x<(I.mc 0).pc.m){t:Nat}(ht:t<I.c.st.toNat):(I.mc 0).pc.stepI I.c.st.toNat x (t:Int)=(I.mc 0).pc.itemsI x (t:Int):=by
 unfold PlC.stepI;rw[if_pos ⟨by omega,by omega,by omega,by omega⟩]
theorem Zvh.item(hk:(I.mc 0).pc.Ok)(h:Zvh I x p m)(hx:x<(I.mc 0).pc.m)(hp:p<I.rg.N)(h0:I.rg.kd x p≠0):∃s it,((I.mc 0).pc.stepS 60)[p%(I.mc 0).pc.sl]?=some s/\(I.mc 0).pc.itS x ((p/(I.mc 0).pc.sl:Nat):Int) s=some it/\(I.mc 0).pc.itN x p=some it/\m.its[m.nx]?=some it/\p/(I.mc 0).pc.sl<I.c.st.toNat:=by
 obtain⟨e,hq⟩:=ZdT (c:=(I.mc 0).pc) p;have ht:p/(I.mc 0).pc.sl<I.c.st.toNat:=Nat.div_lt_of_lt_mul (by rw[Nat.mul_comm];exact hp);obtain⟨s,it,h1,h2,h3,h4⟩:=Zvf hk x (p/(I.mc 0).pc.sl) (p%(I.mc 0).pc.sl) hx hq (by rw[<-e];exact h0);rw[<-e] at h3;exact⟨s,it,h1,h2,h3,by rw[h.its,h.nx,ZnV hx ht];exact h4,ht⟩
theorem Zvh.next(hk:(I.mc 0).pc.Ok)(h:Zvh I x p m)(hx:x<(I.mc 0).pc.m)(hp:p<I.rg.N)(h0:I.rg.kd x p≠0)(hn:I.rg.Nx x p p'){m':MS}(h1:m'.its=m.its)(h2:m'.nx=m.nx)(h3:m'.cnt=m.cnt)(hc:ZmO m'=I.rg.sy p' x):Zvh I x p' (ZaS (I.mc x) m' ((p/(I.mc 0).pc.sl:Nat):Int)):=by
 obtain⟨e,hq⟩:=ZdT (c:=(I.mc 0).pc) p;have ht:p/(I.mc 0).pc.sl<I.c.st.toNat:=Nat.div_lt_of_lt_mul (by rw[Nat.mul_comm];exact hp);have hL:=ZfU (c:=(I.mc 0).pc);generalize hT:p/(I.mc 0).pc.sl=t at *;generalize hQ:p%(I.mc 0).pc.sl=q at *;have hit:m'.its.length=(I.mc 0).pc.nxf x t (I.mc 0).pc.sl:=by rw[h1,h.its,hT,ZnV hx ht,Zrp hk x t hx]
 have hnx:m'.nx=(I.mc 0).pc.nxf x t q:=by rw[h2,h.nx,hT,hQ]
 have h0':(I.mc 0).pc.kdN 60 x (t*(I.mc 0).pc.sl+q)≠0:=by rw[<-e];exact h0
 have hs:=Zgm (c:=(I.mc 0).pc) x t q hq;rw[if_neg h0'] at hs;have hlt:=hn.lt;have hcn:(I.mc 0).pc.cn x p'=m'.cnt+1:=by
  rw[ZnU x (p+1) p' hlt (fun i h4 h5=>hn.no i (by omega) h5),PlC.cn,if_neg (show ¬(I.mc 0).pc.kdN 60 x p=0 from h0),h3,h.cnt]
 by_cases hl:q+1=(I.mc 0).pc.sl
 ·have hp':p'=p+1:=by
   by_cases e1:p'=p+1
   ·exact e1
   ·have h4:=hn.no (p+1) (by omega) (by omega);have h5:=Ztu hk x (t+1);rw[show (t+1)*(I.mc 0).pc.sl=p+1 by rw[Nat.add_mul,Nat.one_mul];omega] at h5;exact absurd (h5.symm.trans h4) (by decide)
  have hpt:p'=(t+1)*(I.mc 0).pc.sl+0:=by rw[Nat.add_mul,Nat.one_mul];omega
  obtain⟨a1,a2⟩:=ZdG (c:=(I.mc 0).pc) (t+1) 0 (by omega);rw[<-hpt] at a1 a2;have hif:m'.nx+1=m'.its.length:=by rw[hit,hnx,<-hl,hs]
  refine⟨by rw[Zrr];exact hc,?_,?_,?_⟩
  ·unfold ZaS;rw[if_pos hif,a2];rfl
  ·unfold ZaS;rw[if_pos hif,a1];rfl
  ·unfold ZaS;rw[if_pos hif];exact hcn.symm
 ·have hp':p'<=t*(I.mc 0).pc.sl+((I.mc 0).pc.sl-1):=by
   by_cases e1:p'<=t*(I.mc 0).pc.sl+((I.mc 0).pc.sl-1)
   ·exact e1
   ·have h4:=hn.no (t*(I.mc 0).pc.sl+((I.mc 0).pc.sl-1)) (by omega) (by omega);exact absurd ((Zrq (c:=(I.mc 0).pc) x t).symm.trans h4) (by decide)
  obtain⟨q',hq'⟩:∃q',p'=t*(I.mc 0).pc.sl+q':=⟨p'-t*(I.mc 0).pc.sl,by omega⟩;obtain⟨a1,a2⟩:=ZdG (c:=(I.mc 0).pc) t q' (by omega);rw[<-hq'] at a1 a2;have hst:=Zro (c:=(I.mc 0).pc) x t (q+1) q' (by omega) (by omega) (fun i h4 h5=>hn.no _ (by omega) (by omega));have hlast:(I.mc 0).pc.nxf x t (I.mc 0).pc.sl=(I.mc 0).pc.nxf x t ((I.mc 0).pc.sl-1)+1:=by
   have:=Zgm (c:=(I.mc 0).pc) x t ((I.mc 0).pc.sl-1) (by omega);rw[Zrq,if_neg (by decide),Nat.sub_add_cancel hL] at this;exact this
  have hmono:(I.mc 0).pc.nxf x t (q+1)<=(I.mc 0).pc.nxf x t ((I.mc 0).pc.sl-1):=by
   have b1:=ZjG (c:=(I.mc 0).pc) x t (q+1) (by omega);have b2:=ZjG (c:=(I.mc 0).pc) x t ((I.mc 0).pc.sl-1) (by omega);have b3:=ZjF (c:=(I.mc 0).pc) x (show t*(I.mc 0).pc.sl+(q+1)<=t*(I.mc 0).pc.sl+((I.mc 0).pc.sl-1) by omega);omega
  have hif:¬m'.nx+1=m'.its.length:=by rw[hit,hnx];omega
  refine⟨by rw[Zrr];exact hc,?_,?_,?_⟩
  ·unfold ZaS;rw[if_neg hif,a2];dsimp only;rw[h1,h.its,hT]
  ·unfold ZaS;rw[if_neg hif,a1,a2];dsimp only;rw[hst,hs,hnx]
  ·unfold ZaS;rw[if_neg hif];exact hcn.symm
end
section
open Go.ChangeShapes Go.WideShapes Go.ChangeAt Go.RowKit
theorem ZmP{w:World}{a:Addr}{n:Nat}{xs:List Value}(hn:xs.length=n)(h:∀i u,xs[i]?=some u->w.cell? (a.add i)=some u):Rd w 1 (some a) n xs:=by
 refine⟨by omega,fun h0=>?_⟩;obtain⟨b,o,sp⟩:=a;have h0':=h 0 xs[0] (YaA (by omega));have hs:sp=none:=by
  have:=World.cell?_spot h0'
  simpa [Addr.add] using this
 subst hs;refine⟨b,o,rfl,?_,fun j u hu=>?_⟩
 ·have:=World.block_lt_of_cell? w _ h0'
  simpa [Addr.add] using this
 ·have hc:=h j u hu
  rwa [show ((⟨b,o,none⟩:Addr).add j)=⟨b,o+j,none⟩ by unfold Addr.add;by_cases hj:j=0<;>simp[hj]] at hc
end
section
open Go.ChangeShapes Go.WideShapes Go.ChangeAt Go.RowKit
variable{H:Type}{enc:TypeId×Value→H}{P:Program}{w:World}{base:Nat}{spare:Nat→Bool}{held:Bool}{r:Reach}{b0:Nat}{t e:TypeId}{v:Value}{d:DataW H}{p:List MemPlace}
theorem Zg3{k:IntKind}{fuel:Nat}{c:Value}{x:DataW H×List MemPlace}(ht:P.underlying t=some (.slice e))(he:P.underlying e=some (.int k))(hc:P.cellsOf e=1)
  (h:DataW.trod enc P w base spare held fuel t [c]=some x) :
  ∃(A:Option Addr) (n cap:Nat) (l:List Int),c=.slice A n cap/\(n<=9223372036854775807/\n<=cap/\cap<=9223372036854775807)/\l.length=n/\Rd w 1 A n (l.map (Value.int k))/\(∀z∈l,(Lit.int k z).wf=true) /\
   ((n=0/\x.1=.nil)\/∃es sp,x.1=.slice es sp/\n<=es.length+sp.length):=by
 rcases Go.Deep.open_slice1 ht hc h with⟨hcs,hx⟩|⟨a,n,cap,m,fu,V,D,Pl,hcs,_,hl,hm,hmm,hx,hi⟩
 ·simp at hcs;subst hcs;exact⟨none,0,0,[],rfl,by simp,rfl,Rd.nil _ _ _,by simp,.inl ⟨rfl,by rw[hx]⟩⟩
 ·simp at hcs;subst hcs;have hnm:n<=m:=by rw[hmm];split<;>omega
  have hall:∀i,i<n->∃z:Int,V i=.int k z/\(Lit.int k z).wf=true:=by
   intro i him;obtain⟨_,ht⟩:=hi i (by omega);obtain⟨n5,h5,w5⟩:=ZcH he ht;exact⟨n5,h5,w5⟩
  obtain⟨f,hf'⟩:=Go.Deep.choose_lt hall;refine⟨some a,n,cap,(List.range n).map f,rfl,by unfold maxLen at hm;omega,by simp,ZmP (by simp) (fun i u hu=>?_),?_,.inr ⟨_,_,by rw[hx],by simp⟩⟩
  ·have hin:i<n:=by have:=(YaG.1 hu).1;simpa using this
   rw[(hi i (by omega)).1,(hf' i hin).1,<-hu];simp[hin]
  ·intro x hx;simp only[List.mem_map,List.mem_range] at hx;obtain⟨i,hi,rfl⟩:=hx;exact(hf' i hi).2
end
section
open Go.RowKit
theorem Zo6(A B:Option Addr)(N M c d:Nat)(w:World) :
  Calls prog 161 #[.agg #[.slice A N c,.slice B M d]] w fun e w'=>e=.returned (.agg #[.slice A N c,.slice B M d])/\Bz0 w w':=by
 go_enter func161,ntmps161
 go_wp2;exact bodyPost_ret (v:=.agg #[.slice A N c,.slice B M d]) (by simp[results,results161,go_sem]) rfl ⟨rfl,(bA0 _).alloc (by simp) _⟩
theorem ZjH(A B A' B':Option Addr)(N M N' M' c d c' d':Nat)(Ps Ms Ps' Ms':List Int)(w:World)(h1:Ps.length=N)(h2:Ms.length=M)(h3:Ps'.length=N')(h4:Ms'.length=M')(r1:Rd w 1 A N (iv Ps))(r2:Rd w 1 B M (iv Ms))(r3:Rd w 1 A' N' (iv Ps'))(r4:Rd w 1 B' M' (iv Ms'))
  (l1:N<=1000000) (l2:M<=1000000) (l3:N'<=1000000) (l4:M'<=1000000) :
  Calls prog 160 #[.agg #[.slice A N c,.slice B M d],.agg #[.slice A' N' c',.slice B' M' d']] w fun e w'=>e=.returned (.bool (decide (Ps=Ps') && decide (Ms=Ms')))/\Bz0 w w':=by
 have HC1:=hid (fun W (hb:Below w.heap.size w W)=>Zgz A A' N N' c c' Ps Ps' W h1 h3 (r1.below hb) (r3.below hb) (by omega) (by omega));have HC2:=hid (fun W (hb:Below w.heap.size w W)=>Zgz B B' M M' d d' Ms Ms' W h2 h4 (r2.below hb) (r4.below hb) (by omega) (by omega));clear h1 h2 h3 h4 r1 r2 r3 r4
 go_enter func160,ntmps160
 go_wp2_with fail;obtain⟨w0,hw0⟩:∃w0,(w.alloc (.cells #[.slice A N c,.slice B M d] 176)).alloc (.cells #[.slice A' N' c',.slice B' M' d'] 176)=w0:=⟨_,rfl⟩;have k0:Below w.heap.size w w0:=by rw[<-hw0];exact(bA0 _).alloc (by simp) _
 have hA0:Blk w0 w.heap.size 176 #[.slice A N c,.slice B M d]:=by rw[<-hw0];exact(Blk.new w _ _).alloc _
 have hB0:Blk w0 (w.heap.size+1) 176 #[.slice A' N' c',.slice B' M' d']:=by rw[<-hw0];exact Blk.new' _ _ (by simp)
 rw[hw0];clear hw0;((with_reducible refine(HC1.out w0 k0).mono ?_);rintro e w1 ⟨rfl,hb1⟩);have hA1:=hA0.kept hb1;have hB1:=hB0.kept hb1;have a1:w1.cell? ⟨w.heap.size,1,none⟩=some (.slice B M d):=hA1.cell 1;have b1:w1.cell? ⟨w.heap.size+1,1,none⟩=some (.slice B' M' d'):=hB1.cell 1;have k1:=((Zag.of k0).call hb1).2.2;clear hA0 hB0 hA1 hB1 k0 hb1
 by_cases hP:Ps=Ps'
 ·rw[YaJ hP];have HP:=hid hP;clear hP;go_wp2_with fail;((with_reducible refine(HC2.out w1 k1).mono ?_);rintro e w2 ⟨rfl,hb2⟩);go_wp2_with fail;go_ret;exact⟨Zao (by rw[YaJ HP.out];rfl),((Zag.of k1).call hb2).2.2⟩
 ·rw[YaI hP];have HP:=hid hP;clear hP;go_wp2_with fail;go_ret;exact⟨Zao (by rw[YaI HP.out];rfl),k1⟩
def Zxg(w:World)(A:Option Addr)(n c:Nat)(en:Ending)(w':World):Prop:=
 ∃Z cZ,en=.returned (.agg #[.slice A n c,.slice Z n cZ])/\Rd w' 1 Z n (iv (Zas n))/\Bz0 w w'
theorem ZhP(A:Option Addr)(n c:Nat)(w:World)(hn:n<=1000000) :
  Calls prog 72 #[.slice A n c] w (Zxg w A n c):=by
 obtain⟨i0,hi0,q0,q1,q2⟩:=info_parts ZeL.info
 go_enter func72,ntmps72
 have HH:∀w0,w.alloc (.cells #[.slice none 0 0,.slice none 0 0] 176)=w0->Below w.heap.size w w0/\Blk w0 w.heap.size 176 #[.slice none 0 0,.slice none 0 0]:=fun w0 hw0=>⟨by rw[<-hw0];exact bA0 _,by rw[<-hw0];exact Blk.new _ _ _⟩
 have HH':=hid HH;clear HH
 go_wp2_with (at_make;obtain⟨w0,hw0⟩:∃w0,w.alloc (.cells #[.slice none 0 0,.slice none 0 0] 176)=w0:=⟨_,rfl⟩;rw[hw0];have KD:=hid (HH'.out w0 hw0).1;have SD:=hid (HH'.out w0 hw0).2;clear hw0;go_must (refine wpList_make_full w0 rfl _ _ _ rfl w0.heap.size 2 i0 (.int .i64 0) 1 (by first|exact ZeL.slice|exact Zhy.slice) hi0 q0 q1 .i64 .i64 _ _ n rfl rfl rfl rfl (by rw[q2];omega) (by unfold maxLen;omega) (YaF _) ?_);intro w2 hown2 hg2;(have K2:=hid (Below.grown (bR0 w0.heap.size w0) hg2 (YaF _) (by simp)));(have O2:=hid hown2);(have s0:w2.cell? ⟨w.heap.size,0,none⟩=some (.slice none 0 0):=(SD.out.kept K2.out).cell 0);(have s1:w2.cell? ⟨w.heap.size,1,none⟩=some (.slice none 0 0):=(SD.out.kept K2.out).cell 1);(have f0:=(SD.out.kept K2.out).frozen 0);(have f1:=(SD.out.kept K2.out).frozen 1);(have ls:=(SD.out.kept K2.out).lt);clear hown2 hg2)
 have S2:=SD.out.kept K2.out;have hst:=Za9 S2 (.slice A n c) (.slice (some ⟨w0.heap.size,0,none⟩) n n);have hz:=KD.out.size;have o2:=O2.out;rw[ZeN] at o2;refine bodyPost_ret (v:=.agg #[.slice A n c,.slice (some ⟨w0.heap.size,0,none⟩) n n]) (by simp[results,results72,go_sem,s0,s1,ls]) rfl ⟨_,_,rfl,Rd.of_own (o2.kept hst.1 (.inr (Zab o2 S2 (by decide)))),Zai ((Zag.of KD.out).call K2.out).2.2 (YaH hz K2.out.size) hst.1 (YaF _)⟩
theorem Zfy:Sl prog 290 359 (.agg #[.int .i64 0,.int .i64 0,.int .i64 0,.bool false,.bool false,.int .i64 0,.int .i64 0,.int .i64 0,.int .i64 0,.int .i64 0,.int .i64 0,.int .i64 0]) 12 88:=⟨underlying290,by kernel_rfl,rfl,by omega⟩
theorem Zxs{w:World}{g:Nat}{t:TypeId}{a0 a1 a2 a3 a4 a5:Value}(h:Blk w g t #[a0,a1,a2,a3,a4,a5])(b0 b1 b2 b3 b4 b5:Value) :
  ∃W,W=((((((w.setCell ⟨g,0,none⟩ b0).setCell ⟨g,1,none⟩ b1).setCell ⟨g,2,none⟩ b2).setCell ⟨g,3,none⟩ b3).setCell ⟨g,4,none⟩ b4).setCell ⟨g,5,none⟩ b5)/\w.grownBy W (some g)/\Blk W g t #[b0,b1,b2,b3,b4,b5]:=
 ⟨_,rfl,Zak (p:=⟨g,5,none⟩) (Zak (p:=⟨g,4,none⟩) (Zak (p:=⟨g,3,none⟩) (Zak (p:=⟨g,2,none⟩) (Zak (p:=⟨g,1,none⟩) (Zak (p:=⟨g,0,none⟩) (World.grownBy.refl w _) (.inl rfl) b0) (.inl rfl) b1) (.inl rfl) b2) (.inl rfl) b3) (.inl rfl) b4) (.inl rfl) b5,
  by simpa using (((((h.set_ 0 b0).set_ 1 b1).set_ 2 b2).set_ 3 b3).set_ 4 b4).set_ 5 b5⟩
end
section
open Go.RowKit
variable(pc:PlC)(c:Cfg)(A:Option Addr)(n cap:Nat)(P:Int)(x t:Int)(w:World)
theorem Zdd(hp:pc.Ok)(hf:Ztj pc c)(hP:P=pc.P) :
  Calls prog 209 #[ZnJ A n cap c P] w (Zal w 355 2 pc.nb (rv pc.bks)):=by
 have HG:Hid (∀W,w.alloc (.cells (ZgQ A n cap c P) 172)=W->Below w.heap.size w W/\Blk W w.heap.size 172 (ZgQ A n cap c P)):=hid (by
  rintro W rfl;exact⟨bA0 _,Blk.new _ _ _⟩)
 have HB0:=hid (fun W=>ZhC pc.P pc.bu W hp.p1 (by have:=hp.p2;omega) hp.b1 (by have:=hp.b2;omega));have eb:Zbc pc.P pc.bu=pc.bks:=rfl;have en:cnt pc.P pc.bu=pc.nb:=rfl;rw[eb,en,<-hP,<-hf.bu] at HB0;clear eb en hP hf hp
 go_enter func209,ntmps209
 go_wp2_with fail;obtain⟨w0,hw0⟩:∃w0,w.alloc (.cells (ZgQ A n cap c P) 172)=w0:=⟨_,rfl⟩;obtain⟨hB,hK⟩:=HG.out _ hw0;rw[hw0];clear hw0 HG;((with_reducible refine(HB0.out _).mono ?_);rintro e w1 ⟨A1,c1,rfl,hown,hb⟩);have HO:=hid (Zal.lift ⟨A1,c1,rfl,hown,hb⟩ hB);clear hB hK hown hb;go_wp2_with fail;go_ret;exact HO.out
theorem Zla(hp:pc.Ok)(hf:Ztj pc c)(hP:P=pc.P)(j:Nat)(lo hi:Int)(hj:pc.bks[j]?=some (lo,hi)) :
  Calls prog 254 #[ZnJ A n cap c P,.int .i64 t,.int .i64 j] w fun e w'=>e=.returned (Zkz t j lo hi pc.m pc.ch)/\Bz0 w w':=by
 have HBk:=hid (fun W=>Zdd pc c A n cap P W hp hf hP);have HBL:=hid pc.bks_length;have hjl:j<pc.bks.length:=by
  rcases Nat.lt_or_ge j pc.bks.length with h'|h'
  ·exact h'
  ·rw[YaN h'] at hj;cases hj
 rw[HBL.out] at hjl;have HJ:=hid hj;have hwk:=hf.wk;have hch:=hf.ch;obtain⟨sh,ra,mo,wk,ba,mi,st,bu,ch,wi,ca⟩:=c;simp only at hwk hch;rw[<-hch,<-hwk];have HG:Hid (∀W,(w.alloc (.cells (ZgQ A n cap ⟨sh,ra,mo,wk,ba,mi,st,bu,ch,wi,ca⟩ P) 172)).alloc (.cells #[.int .i64 0,.int .i64 0,.int .i64 0,.int .i64 0,.int .i64 0,.int .i64 0] 395)=W->Below w.heap.size w W/\Blk W w.heap.size 172 (ZgQ A n cap ⟨sh,ra,mo,wk,ba,mi,st,bu,ch,wi,ca⟩ P)/\Blk W (w.heap.size+1) 395 #[.int .i64 0,.int .i64 0,.int .i64 0,.int .i64 0,.int .i64 0,.int .i64 0]):=hid (by
  rintro W rfl;exact⟨(bA0 _).alloc (by simp) _,(Blk.new _ _ _).alloc _,Blk.new' _ _ (by simp)⟩)
 obtain⟨nb,hnb⟩:∃nb,pc.nb=nb:=⟨_,rfl⟩;rw[hnb] at HBk HBL hjl;clear hp hf hP hj hwk hch hnb
 go_enter func254,ntmps254
 go_wp2_with fail;obtain⟨w0,hw0⟩:∃w0,(w.alloc (.cells (ZgQ A n cap ⟨sh,ra,mo,wk,ba,mi,st,bu,ch,wi,ca⟩ P) 172)).alloc (.cells #[.int .i64 0,.int .i64 0,.int .i64 0,.int .i64 0,.int .i64 0,.int .i64 0] 395)=w0:=⟨_,rfl⟩;obtain⟨hB,hK,hJb⟩:=HG.out _ hw0;rw[hw0];clear hw0 HG;obtain⟨pb,hpb⟩:∃pb,w.heap.size=pb:=⟨_,rfl⟩;rw[hpb] at hK hJb ⊢;have HPB:=hid hpb;clear hpb;obtain⟨c0,c1,c2,c3,c4,c5,c6,c7,c8,c9,c10,c11,c12⟩:=cl13 hK;have lc:=hK.lt;have HB:=hid hB;have HJB:=hid hJb;clear hB hK hJb;refine Zad (Zag w0) [0,1,2,4,7,8,9,10,11,12] [3,5,6] [13,14] (by kernel_rfl) (by kernel_rfl) (Zag.start w0) ?_;simp only[YaO,YaP,YaB,YaC];refine Zaa (.int .i64 t) rfl (fun W hW=>?_) ?_
 ·obtain⟨hc,-,-⟩:=hW;go_simp
 go_simp;refine Zaa (.int .i64 j) rfl (fun W hW=>?_) ?_
 ·obtain⟨hc,-,-⟩:=hW;go_simp
 go_simp;refine Zaa (ZnJ A n cap ⟨sh,ra,mo,wk,ba,mi,st,bu,ch,wi,ca⟩ P) rfl (fun W hW=>?_) ?_
 ·obtain⟨hc,-,-⟩:=hW;go_simp
 go_simp;refine Zaa (.int .i64 j) rfl (fun W hW=>?_) ?_
 ·obtain⟨hc,-,-⟩:=hW;go_simp
 go_simp;refine Zaa (.pointer (some ⟨pb,0,none⟩)) rfl (fun W hW=>?_) ?_
 ·obtain⟨hc,-,-⟩:=hW;go_simp
 go_simp;refine Zaa (.pointer (some ⟨pb,4,none⟩)) rfl (fun W hW=>?_) ?_
 ·obtain⟨hc,-,-⟩:=hW;go_simp
 go_simp;refine Zaa (.int .i64 wk) rfl (fun W hW=>?_) ?_
 ·obtain⟨hc,-,-⟩:=hW;go_simp
 go_simp;refine Zaa (.pointer (some ⟨pb,0,none⟩)) rfl (fun W hW=>?_) ?_
 ·obtain⟨hc,-,-⟩:=hW;go_simp
 go_simp;refine Zaa (.pointer (some ⟨pb,9,none⟩)) rfl (fun W hW=>?_) ?_
 ·obtain⟨hc,-,-⟩:=hW;go_simp
 go_simp;refine Zaa (.int .i64 ch) rfl (fun W hW=>?_) ?_
 ·obtain⟨hc,-,-⟩:=hW;go_simp
 go_simp;change Zah _ _ _ _ _ (_::_::_::[]) _ _;unfold Zah;go_wp2_with fail;((with_reducible refine(HBk.out _).mono ?_);rintro e w2 ⟨Ab,cb,rfl,hown,hb⟩);have hb':Below w0.heap.size w0 w2:=((Zag.start w0).call hb).2.2;have HK2:=hid (Zag.of hb');have HJ2:=hid (HJB.out.kept hb');have HB2:=hid (bT0 HB.out hb');obtain⟨g,o,x',y',rfl,hg,hxy,d0,d1⟩:=Zdn HBL.out (Rd.of_own hown) hjl;rw[HJ.out] at hxy;injection hxy with hxy
 injection hxy with f1 f2
 subst f1 f2;have i1:(0:Int)<=(j:Int):=by omega
 have i2:(j:Int)<(nb:Int):=by omega
 clear hown hb hb' c0 c1 c2 c3 c4 c5 c6 c7 c8 c9 c10 c11 c12 lc;go_wp2_with fail;refine⟨HK2.out,?_⟩;unfold Zah;go_wp2_with fail;refine⟨HK2.out,?_⟩;unfold Zah;go_wp2_with fail;refine⟨HK2.out,?_⟩;unfold Zah;change wpList _ _ _ (_::_::[]) _ _;have q0:w2.cell? ⟨pb+1,0,none⟩=some (.int .i64 0):=HJ2.out.cell 0;have q1:w2.cell? ⟨pb+1,1,none⟩=some (.int .i64 0):=HJ2.out.cell 1;have q2:w2.cell? ⟨pb+1,2,none⟩=some (.int .i64 0):=HJ2.out.cell 2;have q3:w2.cell? ⟨pb+1,3,none⟩=some (.int .i64 0):=HJ2.out.cell 3;have q4:w2.cell? ⟨pb+1,4,none⟩=some (.int .i64 0):=HJ2.out.cell 4;have q5:w2.cell? ⟨pb+1,5,none⟩=some (.int .i64 0):=HJ2.out.cell 5;have z0:=HJ2.out.frozen 0;have z1:=HJ2.out.frozen 1;have z2:=HJ2.out.frozen 2;have z3:=HJ2.out.frozen 3;have z4:=HJ2.out.frozen 4;have z5:=HJ2.out.frozen 5;have lj:=HJ2.out.lt;go_wp2_with fail;refine NoPanic.normal ?_;go_wp2_with fail;obtain⟨W,hW,hgr,hBk⟩:=Zxs HJ2.out (.int .i64 t) (.int .i64 j) (.int .i64 lo) (.int .i64 hi) (.int .i64 wk) (.int .i64 ch);rw[<-hW];have p0:W.cell? ⟨pb+1,0,none⟩=some (.int .i64 t):=hBk.cell 0;have p1:W.cell? ⟨pb+1,1,none⟩=some (.int .i64 j):=hBk.cell 1;have p2:W.cell? ⟨pb+1,2,none⟩=some (.int .i64 lo):=hBk.cell 2;have p3:W.cell? ⟨pb+1,3,none⟩=some (.int .i64 hi):=hBk.cell 3;have p4:W.cell? ⟨pb+1,4,none⟩=some (.int .i64 wk):=hBk.cell 4;have p5:W.cell? ⟨pb+1,5,none⟩=some (.int .i64 ch):=hBk.cell 5;have lp:=hBk.lt;refine bodyPost_ret (v:=.agg #[.int .i64 t,.int .i64 j,.int .i64 lo,.int .i64 hi,.int .i64 wk,.int .i64 ch]) (by simp[results,results254,go_sem,p0,p1,p2,p3,p4,p5,lp]) rfl ⟨rfl,Zai HB2.out HB2.out.size hgr (by rw[HPB.out];exact Nat.le_succ _)⟩
end
